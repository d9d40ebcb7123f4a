/- Part. -/
import Derived.Test.YtfgjnpbffppocaaGreatDoorF0
import Derived.Test.YtfgjnpbffppocaaGreatDoorF0Q
import Derived.Test.YtfgjnpbffppocaaGreatDoorF4
import Derived.Test.YtfgjnpbffppocaaGreatDoorF38
import Derived.Test.YtfgjnpbffppocaaGreatDoorF41
import Derived.Lib.SlBytesConst
import Derived.Lib.AppendZeros
set_option maxHeartbeats 2000000
set_option maxRecDepth 100000
namespace Go.Proofs.YtfgjnpbffppocaaGreatDoor
namespace Full
open Go.RowKit Go.Deep Mem Crc
open Store (nv)
theorem new_lies2 (w:World) (t:TypeId) (cs:Array Value) (f:Nat×Nat):Lies (w.alloc (.cells cs t f)) (some ⟨w.heap.size,0,none⟩) cs.toList:=.inr ⟨w.heap.size,0,rfl,by simp,λi u hu=>by
 rw[Nat.zero_add,cell_of_row _ w.heap.size i cs t f (heap_alloc_new w _)]
 simpa using hu⟩
theorem conv_any {va:Option Addr} {vc:Nat} {b:List UInt8} {w:World} (hL:Lies w va (b.map bv)): (convert 27 9 (.slice va b.length vc)).run Tryz.prog w=.ok (nv b) w:=by
 cases va with
 |none=>
  have e0:b= []:=by
   rcases hL with h|⟨g,o,h,_⟩
   ·exact List.map_eq_nil_iff.1 h
   ·cases h
  subst e0;show(convert 27 9 (.slice none 0 vc)).run Tryz.prog w=.ok (.string ⟨#[]⟩) w
  kernel_rfl
 |some ad=>exact run_convert_bytes_back w 27 9 5 _ vc _ Tryz.underlying27 Tryz.underlying5 Tryz.underlying9 (λj hj=>lies_add hL j _ (by simp[hj,bv]))
end Full
namespace RefF
open Go.RowKit Go.Deep Mem Crc Varint Mani
theorem num_step {W w w2:World} {v v2:Value} {bs ys:List UInt8} (ty:TypeId) (h:Grow W v bs w) (ho:OwnB w2 w.heap.size v2 ys) (hb:Below w.heap.size w w2) (hs:bs.length<=1000000/\ys.length<=1000000):
  ∃k a2 c2 v3 w3,v2=.slice a2 k c2/\(Builtin.append_ #[27,27] ty #[v,.slice a2 k c2]).run Tryz.prog w2=.ok v3 w3/\Grow W v3 (bs++ys) w3/\Upon (λq=>v.ownBlock=some q) w w3:=by
 obtain⟨a2,c2,rfl,_,hL2,_,_⟩:=own_shape ho;have hsz:=h.below.size;obtain⟨v3,w3,hr3,hO3,hg3⟩:=run_append_bytes w2 ty v bs (own_later h.own hb) a2 c2 ys hL2 (by omega) (Nat.le_trans hsz hb.size);have hu3:Upon (λq=>v.ownBlock=some q) w w3:=(Upon.of_below hb).trans (Upon.of_grown (P:=λq=>v.ownBlock=some q) hg3 (λq hq=>.inl hq)) (λq hq=>.inl hq);exact⟨_,a2,c2,v3,w3,rfl,hr3,h.step hO3 hu3,hu3⟩
theorem conv_nameC (nm:List UInt8) (s:ByteArray) (hs:sv nm=.string s) (w:World):∃V cap,(convert 9 27 (.string s)).run Tryz.prog w=.ok (.slice (some ⟨w.heap.size,0,none⟩) s.size cap) V/\Lies V (some ⟨w.heap.size,0,none⟩) (nm.map bv)/\Below w.heap.size w V/\s.size<=cap:=by
 refine⟨_,_,run_bytes_of_string w 9 27 5 s Tryz.underlying9 Tryz.underlying27 Tryz.underlying5,?_,(Below.refl _ w).drew.alloc jn _,grownCap_ge w s.size 0 5⟩;unfold Mem.sv at hs;injection hs with hs;subst hs;have hl:=Full.new_lies2 w.drew 5 (bytesRow ⟨nm.toArray⟩ (grownCap w (ByteArray.size ⟨nm.toArray⟩) 0 5)) ((bytesRow ⟨nm.toArray⟩ (grownCap w (ByteArray.size ⟨nm.toArray⟩) 0 5)).size,(bytesRow ⟨nm.toArray⟩ (grownCap w (ByteArray.size ⟨nm.toArray⟩) 0 5)).size+1);refine .inr ⟨w.heap.size,0,rfl,by show w.heap.size<(w.heap.push _).size;simp,λj u hu=>?_⟩
 obtain⟨g,o,e,hc⟩:=lies_at hl (k:=j) (u:=u) (by
  have hj:=(jS.1 hu).1;unfold bytesRow;rw[Array.toList_append,List.getElem?_append_left (by simpa using hj),<-hu,Array.toList_map]
  rfl)
 injection e with e;injection e with e1 e2;subst e2;rw[show g=w.heap.size from e1.symm]at hc;exact hc
end RefF
namespace Pool
open Go.RowKit Go.Deep Mem Crc Walk Mani RefF RefD
theorem put20_any (x:List Nat) (hx:ok x) (w:World):
  Calls Tryz.prog 106 #[.agg (vals x).toArray] w λe w'=>∃v,e=.returned v/\OwnB w' w.heap.size v (Walk.bytes x)/\Below w.heap.size w w':=by
 obtain⟨a,b,c,d,e,f,g,hxe⟩:=ok_seven hx;have hv: (vals x).toArray=#[.int .u32 (a:Int),.int .u32 (b:Int),.int .u32 (c:Int),.int .u32 (d:Int),.int .u32 (e:Int),.int .u32 (f:Int),.int .u32 (g:Int)]:=by rw[hxe];rfl
 rw[hv];obtain⟨W,hW⟩:=jl (((w.alloc (.cells #[.int .u32 (a:Int),.int .u32 (b:Int),.int .u32 (c:Int),.int .u32 (d:Int),.int .u32 (e:Int),.int .u32 (f:Int),.int .u32 (g:Int)] 26)).alloc (.cells #[.int .u32 (a:Int),.int .u32 (b:Int),.int .u32 (c:Int),.int .u32 (d:Int),.int .u32 (e:Int),.int .u32 (f:Int),.int .u32 (g:Int)] 24)).alloc (.cells #[] 5));have hBW:Below w.heap.size w W:=by rw[hW];exact(((Below.refl _ w).alloc jn _).alloc (by simp) _).alloc (by simp;omega) _
 have hbk:Blk W (w.heap.size+1) 24 (vals x).toArray:=by
  rw[hW,hv];exact(Blk.at_ (by simp)).alloc _
 have hg:Grow w (.slice (some ⟨w.heap.size+1+1,0,none⟩) 0 0) (Walk.bytes (x.take 0)) W:=by
  refine⟨?_,hBW⟩;rw[hW];have:=own_empty ((w.alloc (.cells #[.int .u32 (a:Int),.int .u32 (b:Int),.int .u32 (c:Int),.int .u32 (d:Int),.int .u32 (e:Int),.int .u32 (f:Int),.int .u32 (g:Int)] 26)).alloc (.cells #[.int .u32 (a:Int),.int .u32 (b:Int),.int .u32 (c:Int),.int .u32 (d:Int),.int .u32 (e:Int),.int .u32 (f:Int),.int .u32 (g:Int)] 24)) 5 1;simp only[World.size_alloc]at this;exact own_mono this (by omega)
 have HX:=jq hx;have HBK:=jq hbk;have HG:=jq hg;clear hbk hg hBW hx hv hxe
 go_enter Tryz.func106,Tryz.ntmps106
 go_wp2_with fail
 rw[<-hW];clear hW
 go_loopw[4,24] (λo i wr=>∃(k:Nat),k<=7/\i=.int .i64 (k:Int)/\Hid (Grow w o (Walk.bytes (x.take k)) wr)/\Hid (Blk wr (w.heap.size+1) 24 (vals x).toArray)) (λ_ i _=>7-(intOf i).toNat)
 case atStart=>exact⟨0,by omega,rfl,HG,HBK⟩
 case round=>
  obtain⟨k,hk,rfl,hG,hK⟩:=hrel
  by_cases hlt:k<7
  ·have hkx:k<x.length:=by rw[HX.out.1];exact hlt
   obtain⟨m,hm⟩:∃m,x[k]? =some m:=⟨_,jg hkx⟩;have hm32:m<4294967296:=HX.out.2 m (jM hm);have ck:=(hK.out.cell k).trans (show(vals x).toArray[k]? =some (.int .u32 (m:Int))by simp[vals,hm]);have HF:=jq (four02_any m hm32 wr);have hsn:=bytes_snoc x k m hm;have HSN:=jq hsn
   have hbl: (Walk.bytes (x.take k)).length<=1000:=by
    have h1:∀l:List Nat,(Walk.bytes l).length=4*l.length:=λl=>by
     induction l with
     |nil=>rfl
     |cons y r ih=>
      show(Crc.four y++Walk.bytes r).length=_;rw[jL,ih,four_length]
      simp
      omega
    rw[h1,jT]
    omega
   clear hsn hm hkx
   go_wp2_with fail
   refine HF.out.mono ?_;rintro e1 w2 ⟨v2,rfl,hO2,hB2⟩;obtain⟨k2,a2,c2,v3,w3,rfl,hr3,hG3,hu3⟩:=num_step 27 hG.out hO2 hB2 (by rw[four_length];omega);have HG3:=jq hG3;have HK3:=jq (hG.out.box hu3 hK.out (by decide));clear hO2 hB2 hG3 hu3
   go_wp2_with (first|(at_builtin;refine Lib.wpList_append_run _ rfl _ _ _ _ rfl _ _ rfl rfl _ _ hr3 ?_))
   go_roundw
   case rel=>exact⟨k+1,by omega,by go_num,jq (by rw[HSN.out];exact HG3.out),HK3⟩
   case measure=>simp[intOf];omega
  ·obtain rfl:k=7:=by omega
   go_wp2_with fail
   go_ret
   have h7:x.take 7=x:=jW (by rw[HX.out.1];exact Nat.le_refl _);rw[h7]at hG;exact⟨_,rfl,hG.out.own,hG.out.below⟩
theorem many20_any (a:Option Addr) (cp:Nat) (l:List (List Nat)) (w:World) (h:Lies w a (flatW l)) (hok:∀x∈l,ok x) (hm:l.length<=30000):
  Calls Tryz.prog 69 #[.slice a l.length cp] w λe w'=>∃v,e=.returned v/\OwnB w' w.heap.size v (Walk.all l)/\Below w.heap.size w w':=by
 have HL:=jq h;have HOK:=jq hok;obtain⟨n,hn⟩:=jl l.length;rw[<-hn]at hm⊢;have HN:=jq hn;clear h hok hn
 go_enter Tryz.func69,Tryz.ntmps69
 go_wp2_with fail
 have hg:Grow w (.slice (some ⟨w.heap.size,0,none⟩) 0 0) (Walk.all (l.take 0)) (w.alloc (.cells #[] 5)):=⟨own_empty w 5 1,(Below.refl _ w).alloc jn _⟩;have HG:=jq hg;clear hg
 go_loopw[3,8] (λo i wr=>∃(k:Nat),k<=n/\i=.int .i64 (k:Int)/\Hid (Grow w o (Walk.all (l.take k)) wr)) (λ_ i _=>n-(intOf i).toNat)
 case atStart=>exact⟨0,by omega,rfl,HG⟩
 case round=>
  obtain⟨k,hk,rfl,hG⟩:=hrel
  by_cases hlt:k<n
  ·have hkl:k<l.length:=by rw[<-HN.out];exact hlt
   obtain⟨x,hx⟩:∃x,l[k]? =some x:=⟨_,jg hkl⟩;have hxo:=HOK.out x (jM hx);obtain⟨g0,o0,rfl,hcs⟩:=walker_at HOK.out (HL.out.later hG.out.below) hx;have HP:=jq (put20_any x hxo wr);have HSN:=jq (all_snoc l k x hx);obtain⟨a,b,c,d,e,f,g,hxe⟩:=ok_seven hxo;have hv: (vals x).toArray=#[.int .u32 (a:Int),.int .u32 (b:Int),.int .u32 (c:Int),.int .u32 (d:Int),.int .u32 (e:Int),.int .u32 (f:Int),.int .u32 (g:Int)]:=by rw[hxe];rfl
   rw[hv]at HP;rw[hxe]at hcs;have p0:=hcs 0 _ rfl;have p1:=hcs 1 _ rfl;have p2:=hcs 2 _ rfl;have p3:=hcs 3 _ rfl;have p4:=hcs 4 _ rfl;have p5:=hcs 5 _ rfl;have p6:=hcs 6 _ rfl;simp only[Nat.add_zero,<-Nat.add_assoc]at p0 p1 p2 p3 p4 p5 p6
   have hbl: (Walk.all (l.take k)).length<=900000:=by
    rw[all_length _ (λy hy=>HOK.out y (List.mem_of_mem_take hy)),jT]
    omega
   have hbx: (Walk.bytes x).length=28:=bytes_length x hxo;clear hv hxe hcs hx hkl hxo
   go_wp2_with fail
   refine HP.out.mono ?_;rintro e1 w2 ⟨v2,rfl,hO2,hB2⟩;obtain⟨k2,a2,c2,v3,w3,rfl,hr3,hG3,hu3⟩:=num_step 27 hG.out hO2 hB2 (by omega);have HG3:=jq hG3;clear hO2 hB2 hG3 hu3 p0 p1 p2 p3 p4 p5 p6
   go_wp2_with (first|(at_builtin;refine Lib.wpList_append_run _ rfl _ _ _ _ rfl _ _ rfl rfl _ _ hr3 ?_))
   go_roundw
   case rel=>exact⟨k+1,by omega,by go_num,jq (by rw[HSN.out];exact HG3.out)⟩
   case measure=>simp[intOf];omega
  ·obtain rfl:k=n:=by omega
   go_wp2_with fail
   go_ret
   have h7:l.take k=l:=jW (by rw[HN.out];exact Nat.le_refl _);rw[h7]at hG;exact⟨_,rfl,hG.out.own,hG.out.below⟩
end Pool
namespace RefD
open Go.RowKit Go.Deep Mem Crc Full Mani
open Store (nv)
attribute [local go_sem] Oper.semAt_some RefF.neq_str
theorem fits02_any (a:Option Addr) (cp:Nat) (bs:List UInt8) (w:World) (h:Lies w a (bs.map bv)) (hcp:bs.length<=cp) (hm:bs.length<=3000000):
  Calls Tryz.prog 120 #[.slice a bs.length cp] w λe w'=>∃v,e=.returned (.tuple #[v,.int .i64 (fitsE bs)])/\OwnB w' w.heap.size v (fitsL bs)/\Below w.heap.size w w':=by
 by_cases h4:bs.length<4
 ·have e1:fitsE bs=2:=if_pos h4;have e2:fitsL bs= []:=if_neg (by omega);rw[e1,e2];clear h e1 e2
  go_enter Tryz.func120,Tryz.ntmps120
  go_wp2_with fail
  go_ret2
  exact⟨_,rfl,own_empty w 5 1,(Below.refl _ w).alloc jn _⟩
 ·obtain⟨g,off,rfl,hg,hc⟩:=h.resolve_left (λe=>by
   rw[List.map_eq_nil_iff]at e;subst e;exact h4 (by decide))
  have hL:Lies w (some ⟨g,off,none⟩) (bs.map bv):=.inr ⟨g,off,rfl,hg,hc⟩;have hL2:Lies w (some ⟨g,off,none⟩) ((bodyOf bs).map bv):=by unfold bodyOf;rw[List.map_take];exact hL.take _
  obtain⟨m,hm4⟩:∃m,bs.length=m+4:=⟨bs.length-4,by omega⟩;have hol: (bodyOf bs).length=m:=by rw[bodyOf_length];omega
  obtain⟨W1,hW1⟩:=jl (w.alloc (.cells #[] 5));have hB1:Below w.heap.size w W1:=by rw[hW1];exact(Below.refl _ w).alloc jn _
  have ho1:OwnB W1 w.heap.size (.slice (some ⟨w.heap.size,0,none⟩) 0 0) []:=by rw[hW1];exact own_empty w 5 1
  obtain⟨v2,w2,hr2,hO2,hg2⟩:=run_append_bytes W1 27 _ _ ho1 (some ⟨g,off,none⟩) cp (bodyOf bs) (hL2.later hB1) (by rw[hol];simp;omega) hB1.size;rw[List.nil_append]at hO2;have hB2:Below w.heap.size w w2:=hB1.grown hg2 hB1.size (λq hq=>(ho1.lt q hq).1);obtain⟨v2a,v2c,rfl,_,hl2,-⟩:=own_shape hO2;have hmk:=mark02_any v2a v2c (bodyOf bs) w2 hl2 (by rw[hol];omega);rw[hol,hW1]at hr2;rw[hol]at hmk;have HMK:=jq hmk;have HOW:=jq hO2;have HB2:=jq hB2;have HL:=jq (hL.later hB2);have HO:=jq hol;have HM4:=jq hm4;have hw:IntKind.i64.wrap ((m:Int)+4-4)=m:=by rw[show(m:Int)+4-4=m by omega];exact IntWalk.i64_in _ (by omega)
  have hmc:m<=cp:=by omega
  have e1:fitsE bs=if marked (bodyOf bs)=bs then 0 else 5:=if_neg h4
  have E1:=jq e1;rw[hm4];have hm5:m+4<=3000000:=by omega
  clear hc hg hL hL2 hol hO2 hB2 hg2 ho1 hB1 hl2 hmk e1 h4 hW1 h hcp hm
  go_enter Tryz.func120,Tryz.ntmps120
  go_wp2_with (first|(at_builtin;refine Lib.wpList_append_run _ rfl _ _ _ _ rfl _ _ rfl rfl _ _ hr2 ?_))
  obtain⟨sm,hsm⟩:∃s:ByteArray,nv (marked (bodyOf bs))=.string s:=⟨_,rfl⟩;obtain⟨sb,hsb⟩:∃s:ByteArray,nv bs=.string s:=⟨_,rfl⟩
  have hcb:∀V:World,Below w2.heap.size w2 V->(convert 27 9 (.slice (some ⟨g,off,none⟩) (m+4) cp)).run Tryz.prog V=.ok (.string sb) V:=λV hV=>by
   have h:=conv_any (vc:=cp) (HL.out.later hV);rw[hsb,HM4.out]at h;exact h
  have hbq: (sm.toList==sb.toList)=(marked (bodyOf bs)==bs):=RefF.str_beq hsm hsb;obtain⟨q,hq⟩:∃q:Bool,(sm.toList==sb.toList)=q:=⟨_,rfl⟩;have k0:=hcb w2.drew (Below.refl _ w2).drew;have HCB:=jq hcb;have HSM:=jq hsm;have HBQ:=jq hbq;have HQ:=jq hq;have hml: (marked (bodyOf bs)).length=m+4:=by rw[mark_length,HO.out]
  have HML:=jq hml
  have HMK2:Hid (∀V:World,V=w2.drew->Calls Tryz.prog 105 #[.slice v2a m v2c] V λe w'=>∃v,e=.returned v/\OwnB w' w2.heap.size v (marked (bodyOf bs))/\Below w2.heap.size w2 w'):=jq (λV hV=>by
   subst hV
   have h:=mark02_any v2a v2c (bodyOf bs) w2.drew (by
    obtain⟨_,_,e,_,hl,-⟩:=own_shape HOW.out;injection e with e1 _ _;subst e1;exact hl.later (Below.refl _ w2).drew) (by rw[HO.out];omega)
   rw[HO.out]at h
   exact h.mono (λe w' hh=>by
    obtain⟨v,h1,h2,h3⟩:=hh;exact⟨v,h1,h2,(Below.refl _ w2).drew.trans h3⟩))
  clear hcb hsm hsb hbq hml HMK hr2
  go_region_law ((first|(go_simp;go_at_call 105;refine(HMK2.out _ rfl).mono ?_;rintro e w4 ⟨v4,rfl,hO4,hB4⟩;obtain⟨v4a,v4c,rfl,_,hL4,-⟩:=own_shape hO4;have k1:=HCB.out w4 hB4;have k2:=conv_any (vc:=v4c) hL4;rw[HSM.out,HML.out]at k2;rw[HML.out];have HB4:=jq hB4;clear hO4 hB4 hL4;dsimp only)))
  all_goals cases q
  all_goals have HE:Hid (fitsE bs=if(marked (bodyOf bs)==bs)=true then 0 else 5):=jq (by rw[E1.out];simp)
  all_goals have HLL:Hid (fitsL bs=if(marked (bodyOf bs)==bs)=true then bodyOf bs else []):=jq (by unfold fitsL;simp[show 4<=bs.length by omega])
  all_goals rw[<-HBQ.out,HQ.out]at HE HLL
  all_goals have HS:=jq (Nat.le_trans HB2.out.size HB4.out.size)
  all_goals go_wp2_with fail
  all_goals go_ret2
  all_goals first
   |exact⟨_,by rw[HE.out];rfl,by rw[HLL.out];exact own_mono (own_empty w4 5 1) HS.out,(HB2.out.trans (HB4.out.mono HB2.out.size)).alloc HS.out _⟩
   |exact⟨_,by rw[HE.out];rfl,by rw[show fitsL bs=bodyOf bs from HLL.out.trans (by simp)];have hO:=own_later HOW.out HB4.out;rw[HO.out]at hO;unfold OwnB;rw[HO.out];exact hO,HB2.out.trans (HB4.out.mono HB2.out.size)⟩
end RefD
namespace RefD
open Go.RowKit Go.Deep Mem Crc Full Mani Go.Proofs.YtfgjnpbffppocaaGreatDoor.Frame
attribute [local go_sem] Oper.semAt_some
theorem get5_any (a:Option Addr) (cp:Nat) (bs:List UInt8) (w:World) (h:Lies w a (bs.map bv)) (hcp:bs.length<=cp) (hm:bs.length<=3000000):
  Calls Tryz.prog 88 #[.slice a bs.length cp] w λe w'=>Got bs w e w':=by
 by_cases h9:bs.length<9
 ·have e0:got bs=(0,[],0,2):=if_pos h9;have E0:=jq e0;clear h hcp e0
  go_enter Tryz.func88,Tryz.ntmps88
  go_wp2_with fail
  refine bodyPost_ret (v:=.tuple #[.agg #[.int .u8 0,.slice none 0 0],.int .i64 0,.int .i64 2]) (by simp[results,Tryz.results88,go_sem]) rfl ⟨⟨.slice none 0 0,by rw[E0.out];rfl,by rw[E0.out];exact World.ownsRow_nil _ _ _ _⟩,((Below.refl _ w).alloc jn _).alloc (by simp) _⟩
 ·obtain⟨g,off,rfl,hg,hc⟩:=h.resolve_left (λe=>by
   rw[List.map_eq_nil_iff]at e;subst e;exact h9 (by decide))
  have hL:Lies w (some ⟨g,off,none⟩) (bs.map bv):=.inr ⟨g,off,rfl,hg,hc⟩;obtain⟨h,hh⟩:=jl (bs.take 9);have hhl:h.length=9:=by rw[hh,jT];omega
  obtain⟨W1,hW1⟩:=jl ((w.alloc (.cells #[.int .u8 0,.slice none 0 0] 128)).alloc (.cells #[.int .u8 0,.slice none 0 0] 128));obtain⟨rb,hrb⟩:=jl w.heap.size;obtain⟨nb,hnb⟩:=jl (w.heap.size+1);have hal:Below w.heap.size w W1:=by rw[hW1];exact((Below.refl _ w).alloc jn _).alloc (by simp) _
  have hrk:Blk W1 rb 128 #[.int .u8 0,.slice none 0 0]:=by
   rw[hW1,hrb];exact(Blk.new w _ _).below ((Below.refl _ _).alloc jn _) (by simp)
  have hnk:Blk W1 nb 128 #[.int .u8 0,.slice none 0 0]:=by
   rw[hW1,hnb];have h:=Blk.new (w.alloc (.cells #[.int .u8 0,.slice none 0 0] 128)) 128 #[.int .u8 0,.slice none 0 0]
   simpa using h
  have hL9:Lies W1 (some ⟨g,off,none⟩) (h.map bv):=by
   rw[hh,List.map_take];exact(hL.later hal).take _
  have hfit:=fits02_any (some ⟨g,off,none⟩) cp h _ hL9 (by omega) (by omega);rw[hhl]at hfit;have HF:=jq hfit;have h9c: (9:Nat)<=cp:=by omega
  have hb9:decide ((bs.length:Int) <9)=false:=by simp;omega
  have HL:=jq hL;have HAL:=jq hal;have HRK:=jq hrk;have HNK:=jq hnk;have HH:=jq hh;have HRW:Hid (w.heap.size<=rb):=jq (by omega);have HNE:Hid (nb≠rb):=jq (by omega);clear hc hg hL hL9 hfit hal hrk hnk hh
  go_enter Tryz.func88,Tryz.ntmps88
  go_wp2_with fail
  rw[<-hW1,<-hnb,<-hrb];clear hW1 hrb hnb;refine HF.out.mono ?_;rintro e w1 ⟨v1,rfl,hown1,hB1⟩;have hrk1:=HRK.out.below hB1 HRK.out.lt;have hnk1:=HNK.out.below hB1 HNK.out.lt;have x0:=hnk1.cell 0;have x1:=hnk1.cell 1
  simp at x0 x1
  have r0:=hrk1.cell 0;have r1:=hrk1.cell 1
  simp at r0 r1
  have z0:=hrk1.frozen 0;have z1:=hrk1.frozen 1;have hrw:w.heap.size<=rb:=HRW.out;have HRK1:=jq hrk1;have HNK1:=jq hnk1;have HB1:=jq (HAL.out.trans (hB1.mono HAL.out.size));have HOW1:=jq hown1;have hne:nb≠rb:=HNE.out;have HEND:Hid (∀(w2:World) (x y:Value),Below w.heap.size w w2->Below w.heap.size w ((w2.setCell ⟨rb,0,none⟩ x).setCell ⟨rb,1,none⟩ y)):=jq (λw2 x y hb=>(hb.setCell hrw _).setCell hrw _);clear hrk1 hnk1 hB1 hown1 HF;rcases fitsE_cases (bs:=h) (by omega)with hf|hf
  ·have hlb:fitsL h=bodyOf h:=fitsL_ok (by omega) hf;have hbl: (bodyOf h).length=5:=by rw[bodyOf_length];omega
   have hown:=HOW1.out;rw[hlb]at hown;obtain⟨g1,c1,e1,hc1,hg1,hg1'⟩:=own_some hown (by omega);obtain⟨a1,c1',e1',_,hl1,_,_⟩:=own_shape hown;rw[e1]at e1';cases e1';rw[hbl]at e1
   have hcell:∀j,j<5->w1.cell? ⟨g1,j,none⟩=some (.int .u8 (((bodyOf h).getD j 0).toNat:Int)):=λj hj=>by
    obtain⟨q,o,e,_,hq⟩:=hl1.resolve_left (by intro e;rw[List.map_eq_nil_iff]at e;rw[e]at hbl;cases hbl);cases e;have:=hq j _ (bv_at (jg (by omega)));rw[Nat.zero_add]at this;rw[this,List.getD_eq_getElem?_getD,jg (by omega)]
    rfl
   have b1:=hcell 1 (by omega);have b2:=hcell 2 (by omega);have b3:=hcell 3 (by omega);have b4:=hcell 4 (by omega);obtain⟨n1,m1⟩:=jl (((bodyOf h).getD 1 0).toNat);obtain⟨n2,m2⟩:=jl (((bodyOf h).getD 2 0).toNat);obtain⟨n3,m3⟩:=jl (((bodyOf h).getD 3 0).toNat);obtain⟨n4,m4⟩:=jl (((bodyOf h).getD 4 0).toNat);have l1:n1<256:=by rw[m1];exact UInt8.toNat_lt _
   have l2:n2<256:=by rw[m2];exact UInt8.toNat_lt _
   have l3:n3<256:=by rw[m3];exact UInt8.toNat_lt _
   have l4:n4<256:=by rw[m4];exact UInt8.toNat_lt _
   rw[<-m1]at b1;rw[<-m2]at b2;rw[<-m3]at b3;rw[<-m4]at b4;obtain⟨N,hN⟩:=jl (n1+n2*256+n3*65536+n4*16777216);have hnum:num (bodyOf h)=N:=by rw[hN,m1,m2,m3,m4];rfl
   have HNUM:=jq hnum;have hNlt:N<4294967296:=by omega
   have HCELL:=jq hcell;have HF0:=jq hf;have HNN:=jq hN;rw[hf];subst e1;clear hown hl1 hcell m1 m2 m3 m4 hN hnum hf hlb
   go_wp2_with fail
   go_quiet (fail)
   have eN: (n1:Int)+256*(n2:Int)+65536*(n3:Int)+16777216*(n4:Int)=(N:Int):=by have:=HNN.out;omega
   rw[eN];have x0': (w1.drewN nq).cell? ⟨nb,0,none⟩=some (.int .u8 0):=x0;have x1': (w1.drewN nq).cell? ⟨nb,1,none⟩=some (.slice none 0 0):=x1;have r0': (w1.drewN nq).cell? ⟨rb,0,none⟩=some (.int .u8 0):=r0;have r1': (w1.drewN nq).cell? ⟨rb,1,none⟩=some (.slice none 0 0):=r1;have z0': (w1.drewN nq).frozen? ⟨rb,0,none⟩=false:=z0;have z1': (w1.drewN nq).frozen? ⟨rb,1,none⟩=false:=z1;obtain⟨WQ,hWQ⟩:=jl (w1.drewN nq);have HWQ:=jq hWQ;have HBQ:Hid (Below w.heap.size w WQ):=jq (by rw[hWQ];exact below_drewN HB1.out nq);have HRKQ:Hid (Blk WQ rb 128 #[.int .u8 0,.slice none 0 0]):=jq (by rw[hWQ];exact HRK1.out.drewN nq);have HNKQ:Hid (Blk WQ nb 128 #[.int .u8 0,.slice none 0 0]):=jq (by rw[hWQ];exact HNK1.out.drewN nq);rw[<-hWQ]at x0' x1' r0' r1' z0' z1'⊢;clear x0 x1 r0 r1 z0 z1 eN b1 b2 b3 b4 hWQ l1 l2 l3 l4
   by_cases hN1:1048576<N
   ·have e0:got bs=(0,[],0,4):=by
     unfold got;rw[if_neg h9,if_neg (by rw[<-HH.out,HF0.out];decide),if_pos (by rw[<-HH.out,HNUM.out];exact hN1)]
    have E0:=jq e0;have q:=box_set HRKQ.out (.int .u8 0) (.slice none 0 0);have q0:=q.cell 0;have q1:=q.cell 1
    simp at q0 q1
    have hB2:=HEND.out WQ (.int .u8 0) (.slice none 0 0) HBQ.out;clear e0 q;have d0:decide ((1048576:Int) <(N:Int))=true:=by simp;omega
    go_wp2_with fail
    refine bodyPost_ret (v:=.tuple #[.agg #[.int .u8 0,.slice none 0 0],.int .i64 0,.int .i64 4]) (by simp[results,Tryz.results88,go_sem,q0,q1]) rfl ⟨⟨.slice none 0 0,by rw[E0.out];rfl,by rw[E0.out];exact World.ownsRow_nil _ _ _ _⟩,hB2⟩
   ·have d0:decide ((1048576:Int) <(N:Int))=false:=by simp;omega
    by_cases hN2:bs.length<13+N
    ·have e0:got bs=(0,[],0,2):=by
      unfold got;rw[if_neg h9,if_neg (by rw[<-HH.out,HF0.out];decide),if_neg (by rw[<-HH.out,HNUM.out];exact hN1),if_pos (by rw[<-HH.out,HNUM.out];exact hN2)]
     have E0:=jq e0;have q:=box_set HRKQ.out (.int .u8 0) (.slice none 0 0);have q0:=q.cell 0;have q1:=q.cell 1
     simp at q0 q1
     have hB2:=HEND.out WQ (.int .u8 0) (.slice none 0 0) HBQ.out;clear e0 q;have d1:decide ((bs.length:Int) <(N:Int)+13)=true:=by simp;omega
     go_wp2_with fail
     refine bodyPost_ret (v:=.tuple #[.agg #[.int .u8 0,.slice none 0 0],.int .i64 0,.int .i64 2]) (by simp[results,Tryz.results88,go_sem,q0,q1]) rfl ⟨⟨.slice none 0 0,by rw[E0.out];rfl,by rw[E0.out];exact World.ownsRow_nil _ _ _ _⟩,hB2⟩
    ·have d1:decide ((bs.length:Int) <(N:Int)+13)=false:=by simp;omega
     obtain⟨o,ho⟩:=jl ((bs.drop 9).take (N+4));have hol:o.length=N+4:=by rw[ho,jT,List.length_drop];omega
     have hLo:Lies WQ (some ⟨g,off+9,none⟩) (o.map bv):=by
      rw[ho,List.map_take];refine Lies.take ?_ _;rw[List.map_drop,HWQ.out];exact((HL.out.later HB1.out).drop 9).drewN nq
     have hfit2:=fits02_any (some ⟨g,off+9,none⟩) (cp-9) o WQ hLo (by omega) (by omega);rw[hol]at hfit2;have HF2:=jq hfit2;have HO:=jq ho;have HOL:=jq hol;have h13:N+13<=cp:=by omega
     clear hfit2 hLo ho hol
     go_wp2_with fail
     refine HF2.out.mono ?_;rintro e w2 ⟨v2,rfl,hown2,hB2⟩;have hrk2:=HRKQ.out.below hB2 HRKQ.out.lt;have hnk2:=HNKQ.out.below hB2 HNKQ.out.lt;have y0:=hrk2.cell 0;have y1:=hrk2.cell 1
     simp at y0 y1
     have u0:=hrk2.frozen 0;have u1:=hrk2.frozen 1;have n0:=hnk2.cell 0;have n1':=hnk2.cell 1
     simp at n0 n1'
     have c0:w2.cell? ⟨g1,0,none⟩=some (.int .u8 (((bodyOf h).getD 0 0).toNat:Int)):=by
      have hb:Below w1.heap.size w1 w2:=by
       have:=hB2;rw[HWQ.out]at this;exact(below_drewN (Below.refl w1.heap.size w1) nq).trans this
      exact hb.cell (p:=⟨g1,0,none⟩) hg1' |>.trans (HCELL.out 0 (by omega))
     obtain⟨kd,hkd⟩:=jl (((bodyOf h).getD 0 0).toNat);rw[<-hkd]at c0;have HKD:=jq hkd;have HRK2:=jq hrk2;have HB2:Hid (Below w.heap.size w w2):=jq (HBQ.out.trans (hB2.mono HBQ.out.size));have hszQ:WQ.heap.size<=w2.heap.size:=hB2.size;have HSQ:Hid (rb<WQ.heap.size/\w.heap.size<=WQ.heap.size):=jq ⟨HRKQ.out.lt,HBQ.out.size⟩;have HOW2:=jq hown2;clear hrk2 hnk2 hB2 hown2 x0' x1' r0' r1' z0' z1' hkd hszQ HCELL HF2;rcases fitsE_cases (bs:=o) (by rw[HOL.out];omega)with hf2|hf2
     ·have e0:got bs=((bodyOf h).getD 0 0,bodyOf o,13+N,0):=by
       unfold got;rw[if_neg h9,if_neg (by rw[<-HH.out,HF0.out];decide),if_neg (by rw[<-HH.out,HNUM.out];exact hN1),if_neg (by rw[<-HH.out,HNUM.out];exact hN2),<-HH.out,HNUM.out,<-HO.out,if_neg (by rw[hf2];decide)]
       have e9: (bodyOf h).getD 0 0=h.getD 0 0:=by
        unfold bodyOf;rw[List.getD_eq_getElem?_getD,List.getD_eq_getElem?_getD,List.getElem?_take,if_pos (by omega)]
       rw[e9]
      have hlb:fitsL o=bodyOf o:=fitsL_ok (by rw[HOL.out];omega) hf2;have hown3:=HOW2.out;rw[hlb]at hown3;have E0:=jq e0;obtain⟨a2,c2,e2,_,_,hb2,_⟩:=own_shape hown3;subst e2;have q:=box_set HRK2.out (.int .u8 (kd:Int)) (.slice a2 (bodyOf o).length c2);have q0:=q.cell 0;have q1:=q.cell 1
      simp at q0 q1
      have HB3:=jq (HEND.out w2 (.int .u8 (kd:Int)) (.slice a2 (bodyOf o).length c2) HB2.out)
      have hown4:OwnB ((w2.setCell ⟨rb,0,none⟩ (.int .u8 (kd:Int))).setCell ⟨rb,1,none⟩ (.slice a2 (bodyOf o).length c2)) w.heap.size (.slice a2 (bodyOf o).length c2) (bodyOf o):=by
       have hne2: (Value.slice a2 (bodyOf o).length c2).ownBlock≠some rb:=λe=>by
        have:=(hown3.lt _ e).1;have:=HSQ.out.1
        omega
       exact own_mono (own_far (own_far hown3 hne2 _) hne2 _) HSQ.out.2
      have HO4:=jq hown4;rw[hf2];clear e0 hlb hown3 q hf2 hb2 hown4
      go_wp2_with fail
      have e9: ((N:Int)+13)=((13+N:Nat):Int):=by omega
      refine bodyPost_ret (v:=.tuple #[.agg #[.int .u8 (kd:Int),.slice a2 (bodyOf o).length c2],.int .i64 ((N:Int)+13),.int .i64 0]) (by simp[results,Tryz.results88,go_sem,q0,q1]) rfl ⟨⟨.slice a2 (bodyOf o).length c2,?_,by rw[E0.out];exact HO4.out⟩,HB3.out⟩;rw[E0.out,e9,HKD.out]
      rfl
     ·have e0:got bs=(0,[],0,5):=by
       unfold got;rw[if_neg h9,if_neg (by rw[<-HH.out,HF0.out];decide),if_neg (by rw[<-HH.out,HNUM.out];exact hN1),if_neg (by rw[<-HH.out,HNUM.out];exact hN2),<-HH.out,HNUM.out,<-HO.out,if_pos hf2]
      have E0:=jq e0;have q:=box_set HRK2.out (.int .u8 0) (.slice none 0 0);have q0:=q.cell 0;have q1:=q.cell 1
      simp at q0 q1
      have hB3:=HEND.out w2 (.int .u8 0) (.slice none 0 0) HB2.out;rw[hf2];clear e0 q hf2
      go_wp2_with fail
      refine bodyPost_ret (v:=.tuple #[.agg #[.int .u8 0,.slice none 0 0],.int .i64 0,.int .i64 5]) (by simp[results,Tryz.results88,go_sem,q0,q1]) rfl ⟨⟨.slice none 0 0,by rw[E0.out];rfl,by rw[E0.out];exact World.ownsRow_nil _ _ _ _⟩,hB3⟩
  ·have e0:got bs=(0,[],0,5):=by
    unfold got;rw[if_neg h9,if_pos (by rw[<-HH.out];exact hf)]
   have E0:=jq e0;rw[hf];have q:=box_set HRK1.out (.int .u8 0) (.slice none 0 0);have q0:=q.cell 0;have q1:=q.cell 1
   simp at q0 q1
   have hB2:=HEND.out w1 (.int .u8 0) (.slice none 0 0) HB1.out;clear e0 q hf
   go_wp2_with fail
   refine bodyPost_ret (v:=.tuple #[.agg #[.int .u8 0,.slice none 0 0],.int .i64 0,.int .i64 5]) (by simp[results,Tryz.results88,go_sem,q0,q1]) rfl ⟨⟨.slice none 0 0,by rw[E0.out];rfl,by rw[E0.out];exact World.ownsRow_nil _ _ _ _⟩,hB2⟩
end RefD
namespace Frame
open Go.RowKit Go.Deep Mem Crc
theorem all5_any (a:Option Addr) (cp:Nat) (bs:List UInt8) (w:World) (h:Lies w a (bs.map bv)) (hcp:bs.length<=cp) (hm:bs.length<=3000000):
  Calls Tryz.prog 58 #[.slice a bs.length cp] w λe w'=>AllGot bs w e w':=by
 obtain⟨i0,hi0,hz0,hz1,hz2⟩:=info_parts infoS;have HL:=jq h;clear h
 go_enter Tryz.func58,Tryz.ntmps58
 go_wp2_with fail
 go_loopw[0,4] (λb o wr=>∃(a':Option Addr) (cp':Nat) (l:List Sec) (rest:List UInt8),b=.slice a' rest.length cp'/\rest.length<=cp'/\l.length+rest.length<=bs.length/\Hid (Lies w a' (rest.map bv))/\Hid (wr.ownsRow w.heap.size 128 2 o l.length (flatS l))/\Hid (Bodies w.heap.size wr l)/\Hid (allF (bs.length+1) bs=glue (l.map Sec.kb) (allF (bs.length+1) rest))/\Hid (Below w.heap.size w wr)) (λb _ _=>lenOf b)
 case atStart=>exact⟨a,cp,[],bs,rfl,hcp,by simp,HL,jq (own_empty w 128 2),jq (λs hs=>by simp at hs),jq (glue_nil _ (allF_shape _ _)).symm,jq ((Below.refl _ w).alloc jn _)⟩
 case round=>
  obtain⟨a',cp',l,rest,rfl,hc',hlr,hL,hO,hBo,hA,hB⟩:=hrel;have hBs:=hB.out.size;obtain⟨n,hn⟩:=jl rest.length;rw[<-hn]at hc' hlr⊢;have HN:=jq hn
  by_cases h0:0<n
  ·have hne:rest≠[]:=λe=>by subst e;simp at hn;omega
   have hgt:=RefD.get5_any a' cp' rest wr (hL.out.later hB.out) (by omega) (by omega);rw[<-hn]at hgt;have HG:=jq hgt;have HNE:=jq hne;have hd0:decide ((0:Int) <(n:Int))=true:=by simp;omega
   clear hgt hne hn
   go_wp2_with fail
   refine HG.out.mono ?_;rintro e w1 ⟨⟨v,rfl,hown⟩,hB1⟩;obtain⟨va,vc,ev,hvc,hvl,hvb,_⟩:=own_shape hown;subst ev;obtain⟨kd,hkd⟩:=jl ((got rest).1);obtain⟨bd,hbd⟩:=jl ((got rest).2.1);obtain⟨m,hm'⟩:=jl ((got rest).2.2.1);obtain⟨er,her⟩:=jl ((got rest).2.2.2);rw[<-hbd]at hvc hvl;rw[<-hkd,<-hbd,<-hm',<-her];unfold bv;have HOWN:=jq (show OwnB w1 wr.heap.size (.slice va bd.length vc) bd by rw[hbd];exact hown);have HVL:=jq hvl;have HVB:=jq hvb;have HKD:=jq hkd;have HBD:=jq hbd;have HM':=jq hm';have HER:=jq her;have HB1:=jq hB1;clear hown hvl hvb hkd hbd hm' her hB1
   by_cases he:er=0
   ·subst he;have hgp:=got_pos (bs:=rest) (by rw[<-HER.out]);have hm13:13<=m:=by rw[HM'.out];exact hgp.1
    have hmn:m<=n:=by rw[HM'.out,HN.out];exact hgp.2
    have halA:=(Below.refl w1.heap.size w1).alloc jn (.cells #[.int .u8 (kd.toNat:Int),.slice va bd.length vc] 128);have halB:=halA.alloc (by simp) (.cells #[.int .u8 (kd.toNat:Int),.slice va bd.length vc] 128);have hO1:=own_later (own_later hO.out HB1.out) halB;have hBs1:=HB1.out.size
    have hcel:∀j u,([.int .u8 (kd.toNat:Int),.slice va bd.length vc]:List Value)[j]? =some u->((w1.alloc (.cells #[.int .u8 (kd.toNat:Int),.slice va bd.length vc] 128)).alloc (.cells #[.int .u8 (kd.toNat:Int),.slice va bd.length vc] 128)).cell? ((⟨w1.heap.size+1,0,none⟩:Addr).add j)=some u:=λj u hu=>by
     have h9:=lies_add (new_lies (w1.alloc (.cells #[.int .u8 (kd.toNat:Int),.slice va bd.length vc] 128)) 128 #[.int .u8 (kd.toNat:Int),.slice va bd.length vc]) j u hu;rw[World.size_alloc]at h9;exact h9
    have HCEL:=jq hcel;have HALB:=jq halB;clear hcel halA halB
    go_wp2_with (first|(at_builtin;refine wpList_append_own _ rfl _ _ 124 rfl w.heap.size 128 i0 (.agg #[.int .u8 0,.slice none 0 0]) 2 32 Tryz.underlying124 hi0 hz0 hz1 hz2 rfl (by decide) _ _ _ rfl hO1 ⟨w1.heap.size+1,0,none⟩ 1 1 [.int .u8 (kd.toNat:Int),.slice va bd.length vc] rfl rfl HCEL.out ?c2 ?c3 ?c4 ?c5 ?_))
    case c2=>intro u hu;simp at hu;rcases hu with rfl|rfl <;> rfl
    case c3=>unfold maxLen;omega
    case c4=>omega
    case c5=>simp;omega
    intro v' w2 hown2 hgrow2 _;have hB2:Below w.heap.size w w2:=((hB.out.trans (HB1.out.mono hBs)).trans (HALB.out.mono (by omega))).grown hgrow2 (by simp;omega) (λq hq=>(hO1.lt q hq).1)
    have hBo2:Bodies w.heap.size w2 (l++ [⟨(got rest).1,bd,va,vc⟩]):=λx hx=>by
     have h1:OwnB ((w1.alloc (.cells #[.int .u8 (kd.toNat:Int),.slice va bd.length vc] 128)).alloc (.cells #[.int .u8 (kd.toNat:Int),.slice va bd.length vc] 128)) w.heap.size (.slice x.a x.body.length x.cp) x.body:=by
      rcases List.mem_append.1 hx with hx|hx
      ·exact own_later (own_later (hBo.out x hx) HB1.out) HALB.out
      ·obtain rfl:x=(⟨(got rest).1,bd,va,vc⟩:Sec):=by simpa using hx
       exact own_mono (own_later HOWN.out HALB.out) hBs
     exact World.ownsRow.kept h1 hgrow2 (own_apart h1 hO1 (by decide))
    have hO2:w2.ownsRow w.heap.size 128 2 v' (l++ [(⟨(got rest).1,bd,va,vc⟩:Sec)]).length (flatS (l++ [(⟨(got rest).1,bd,va,vc⟩:Sec)])):=by
     rw[jL,flatS_snoc,Sec.vs,<-HKD.out];exact hown2
    have hA2:allF (bs.length+1) bs=glue ((l++ [(⟨(got rest).1,bd,va,vc⟩:Sec)]).map Sec.kb) (allF (bs.length+1) (rest.drop m)):=by
     have hne:rest≠[]:=HNE.out;rw[hA.out,allF_step (by have:=HN.out;omega) hne HER.out.symm,List.map_append,<-HM'.out,<-HBD.out]
     rfl
    have hdl: (rest.drop m).length=n-m:=by rw[List.length_drop,<-HN.out]
    obtain⟨ga,oa,ea,hga,hca⟩:=hL.out.resolve_left (λe=>HNE.out (by simpa using e))
    have hLd:Lies w (some ⟨ga,oa+m,none⟩) ((rest.drop m).map bv):=by
     rw[List.map_drop];exact Lies.drop (.inr ⟨ga,oa,rfl,hga,hca⟩) m
    have HLD:=jq hLd;have HBO2:=jq hBo2;have HO2:=jq hO2;have HA2:=jq hA2;have HB2:=jq hB2;have HDL:=jq hdl;subst ea;clear hown2 hgrow2 hO1 hB2 hBo2 hO2 hA2 hdl hLd hca hgp HALB HCEL;have hmc:m<=cp':=by omega
    by_cases hlast:m=cp'
    ·subst hlast;obtain rfl:n=m:=by omega
     have hnil:rest.drop n= []:=List.eq_nil_of_length_eq_zero (by rw[HDL.out];omega);have hA3:=HA2.out;rw[hnil]at hA3;have HA3:=jq hA3;clear hnil hA3
     go_wp2_with fail
     go_roundw
     case rel=>exact⟨_,_,l++ [(⟨(got rest).1,bd,va,vc⟩:Sec)],[],by simp;exact⟨rfl,rfl⟩,Nat.zero_le _,by simp;omega,jq (.inl rfl),HO2,HBO2,HA3,HB2⟩
     case measure=>simp[lenOf];omega
    ·have hlt9:m<cp':=by omega
     go_wp2_with fail
     go_roundw
     case rel=>exact⟨_,_,l++ [(⟨(got rest).1,bd,va,vc⟩:Sec)],rest.drop m,by rw[HDL.out],by rw[HDL.out];omega,by rw[HDL.out];simp;omega,HLD,HO2,HBO2,HA2,HB2⟩
     case measure=>simp[lenOf];omega
   ·have hbad:allF (bs.length+1) bs=([],er):=by
     rw[hA.out,allF_bad (by have:=HN.out;omega) HNE.out (by rw[<-HER.out];exact he),<-HER.out];unfold glue;rw[if_neg he]
    have HBAD:=jq hbad;have hs1:=HB1.out.size;have hde: (er==0)=false:=by simpa using he
    clear hbad
    go_wp2_with fail
    go_ret2
    have he:=own_empty (w1.alloc (.cells #[.int .u8 (kd.toNat:Int),.slice va bd.length vc] 128)) 128 2;rw[World.size_alloc]at he;exact⟨⟨_,[],by rw[HBAD.out];rfl,own_mono he (by omega),by rw[HBAD.out];rfl,λx hx=>by simp at hx⟩,(hB.out.trans (HB1.out.mono hBs)).trans (((Below.refl w1.heap.size w1).alloc jn _).alloc (by simp) _ |>.mono (by omega))⟩
  ·obtain rfl:n=0:=by omega
   have hr:rest= []:=List.eq_nil_of_length_eq_zero hn.symm
   have hfin:allF (bs.length+1) bs=(l.map Sec.kb,0):=by
    rw[hA.out,hr,allF_nil];unfold glue
    simp
   have HFIN:=jq hfin;clear hfin hr hn
   go_wp2_with fail
   go_ret2
   exact⟨⟨_,l,by rw[HFIN.out];rfl,hO.out,by rw[HFIN.out],hBo.out⟩,hB.out⟩
end Frame
end Go.Proofs.YtfgjnpbffppocaaGreatDoor
