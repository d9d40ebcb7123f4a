/- Part. -/
import Derived.Test.YtfgjnpbffppocaaGreatDoorF0
import Derived.Test.YtfgjnpbffppocaaGreatDoorF0Q
import Derived.Test.YtfgjnpbffppocaaGreatDoorF4
import Derived.Lib.AppendZerosOnto
import Derived.Lib.AppendStr
set_option maxHeartbeats 400000
set_option maxRecDepth 100000
namespace Go.Proofs.YtfgjnpbffppocaaGreatDoor
namespace Mem
open Go.RowKit Go.Deep Crc
theorem zeroC (k:Nat): (Builtin.zeroCells #[Value.int .u8 0] k).toList=List.replicate k (.int .u8 0):=by
 apply List.ext_getElem?
 intro i;unfold Builtin.zeroCells;simp only[Array.toList_map,Array.toList_range,List.getElem?_map,List.size_toArray,List.length_cons,List.length_nil,Nat.zero_add,Nat.mul_one,Nat.mod_one,List.getElem?_replicate]
 by_cases h:i<k
 ·rw[if_pos h,List.getElem?_range h]
  rfl
 ·rw[if_neg h,List.getElem?_eq_none (by simp;omega)]
  rfl
theorem run_append_zeros {base:Nat} (w:World) (tn ty:TypeId) (htn:Tryz.prog.underlying tn=some (.int .i64)) (g cap n:Nat) (xs:List Value) (hown:w.ownsRow base 5 1 (.slice (some ⟨g,0,none⟩) n cap) n xs) (k:Nat) (h:n+k<=1000000) (hb:base<=w.heap.size):
  ∃v' w',(Builtin.append_ #[27,tn] ty #[.slice (some ⟨g,0,none⟩) n cap,.int .i64 (k:Int)]).run Tryz.prog w=.ok v' w'/\w'.ownsRow base 5 1 v' (n+k) (xs++List.replicate k (.int .u8 0))/\w.grownBy w' (some g):=by
 obtain⟨i,hi,hz,h1,h2⟩:=info_parts infoB8;have ht:=Tryz.underlying27;have hlen: (xs++List.replicate k (Value.int .u8 0)).length=(n+k)*1:=by rw[jL,hown.1,List.length_replicate];omega
 have hw:IntKind.i64.wrap (k:Int)=k:=by rw[IntKind.wrap_i64];omega
 have hneg:¬((k:Int) <0):=by omega
 have h48i:¬(281474976710656<(k:Int)*(i.bytes:Int)):=by rw[h2];omega
 have h48j:¬(281474976710656<(k:Int)):=by omega
 rcases hown.2 with⟨e,_⟩|⟨g',cap',cur,e,hbg,hg,hnc,hcm,hcs,htake⟩
 ·cases e
 ·cases e
  by_cases hroom:n+k<=cap
  ·have hone:∀u∈List.replicate k (Value.int .u8 0),u.oneCell'=true:=λu hu=>by rw[(List.mem_replicate.1 hu).2];rfl
   have hst:=run_storeCells_at Tryz.prog g n 5 (List.replicate k (Value.int .u8 0)) 0 cur w hg (by rw[List.length_replicate,hcs];omega) hone;simp only[Nat.add_zero,List.length_replicate]at hst;have hz0: (Builtin.zeroCells (Value.int .u8 0).cells k).toList=List.replicate k (.int .u8 0):=zeroC k;refine⟨.slice (some ⟨g,0,none⟩) (n+k) cap,w.setRow g (cur.toList.take n++List.replicate k (Value.int .u8 0)++cur.toList.drop (n+k)).toArray,?_,⟨hlen,.inr ⟨g,cap,_,rfl,hbg,setRow_heap w g cur _ 5 _ hg,hroom,hcm,?_,?_⟩⟩,⟨rfl,rfl,rfl,by simp,λj _ hj=>setRow_other w g j _ (λe=>hj (by rw[e]))⟩⟩
   ·by_cases hk:k=0
    ·subst hk;have hw0:IntKind.i64.wrap 0=0:=by rw[IntKind.wrap_i64];rfl
     simp[Builtin.append_,run_underlying ht,run_underlying htn,sizeOf,typeInfo,zeroValue,hi,hz,h1,h2,asInt,asIntOf,hw0,Addr.add_lit,hnc]at hst⊢
     rw[hst]
     rfl
    ·simp[Builtin.append_,run_underlying ht,run_underlying htn,sizeOf,typeInfo,zeroValue,hi,hz,h1,h2,asInt,asIntOf,hw,hneg,hk,hroom,h48j,Addr.add_lit,hz0,hst]
   ·simp only[List.size_toArray,jL,jT,List.length_drop,Array.length_toList,List.length_replicate]
    omega
   ·have e2:cur.toList.take n=xs:=by rw[<-htake,Nat.mul_one]
    rw[e2,<-hlen];exact List.take_left
  ·have holds:∀j u,xs[j]? =some u->w.drew.cell? ((⟨g,0,none⟩:Addr).add j)=some u:=World.ownsRow.cells (w:=w) hown (g:=g) rfl;have hf:=run_firstCells_some (P:=Tryz.prog) w.drew i.size n ⟨g,0,none⟩ n cap xs (by rw[hown.1,h1]) holds;have hr:=Lib.run_append_grow_zeros (P:=Tryz.prog) w 27 tn ty 5 i (.int .u8 0) .i64 .i64 ht htn hi hz (some ⟨g,0,none⟩) n cap xs hf k (by omega) (by rw[h1];decide) (by omega) (by omega) (by rw[h2];omega) (growslice_fits (by omega) (by rw[h2];omega));have hge:=grownCap_ge w (n+k) cap 5;have hcm2:grownCap w (n+k) cap 5<=maxLen:=grownCap_le_maxLen w (n+k) cap 5 (by unfold maxLen;omega);refine⟨_,_,hr,⟨hlen,.inr ⟨w.heap.size,_,_,rfl,hb,heap_alloc_new w.drew _,hge,hcm2,?_,?_⟩⟩,⟨rfl,rfl,rfl,by simp,λj hj _=>Below.heap_alloc w.drew _ j hj⟩⟩
   ·have hzs: (Value.int IntKind.u8 0).cells.size=1:=rfl;have hx:=hown.1;simp only[Array.size_append,List.size_toArray,size_zeroCells,hzs]
    omega
   ·have hz0: (Builtin.zeroCells (Value.int .u8 0).cells k).toList=List.replicate k (.int .u8 0):=zeroC k;simp only[Array.toList_append,List.append_assoc,hz0];rw[<-List.append_assoc,<-hlen];exact List.take_left
theorem run_append_bytes {base:Nat} (w:World) (ty:TypeId) (v:Value) (bs:List UInt8) (h:OwnB w base v bs) (a:Option Addr) (cp:Nat) (cs:List UInt8) (hL:Lies w a (cs.map bv)) (hm:bs.length+cs.length<=100000000) (hb:base<=w.heap.size):
  ∃v' w',(Builtin.append_ #[27,27] ty #[v,.slice a cs.length cp]).run Tryz.prog w=.ok v' w'/\OwnB w' base v' (bs++cs)/\w.grownBy w' v.ownBlock:=by
 obtain⟨i,hi,hz,h1,h2⟩:=info_parts infoB8;have ht:=Tryz.underlying27
 cases a with
 |some ad=>
  obtain⟨v',w',hr,ho,hg,_⟩:=run_append_own (P:=Tryz.prog) w base 27 ty 5 i (.int .u8 0) 1 1 ht hi hz h1 h2 rfl (by decide) v bs.length (bs.map bv) h ad cs.length cp (cs.map bv) (by simp) (λj u hu=>by
   cases hL with
   |inl e=>rw[e]at hu;simp at hu
   |inr e=>exact lies_add (.inr e) j u hu) (oneCell_bytes cs) (by unfold maxLen;omega) (by omega) hb
  refine⟨v',w',hr,?_,hg⟩;unfold OwnB;rw[jL,List.map_append];exact ho
 |none=>
  have e0:cs= []:=List.map_eq_nil_iff.1 (lies_none hL);subst e0;refine⟨v,w,?_,by rw[List.append_nil];exact h,⟨rfl,rfl,rfl,Nat.le_refl _,λ_ _ _=>rfl⟩⟩;rcases h.2 with⟨rfl,e⟩|⟨g,cap,cur,rfl,_,hg,hnc,_⟩
  ·simp[Builtin.append_,run_underlying ht,sizeOf,typeInfo,hi,Builtin.lenOf,Builtin.firstCells]
  ·simp[Builtin.append_,run_underlying ht,sizeOf,typeInfo,hi,h1,Builtin.lenOf,Builtin.firstCells,hnc]
   rfl
def sv (nm:List UInt8):Value:=.string ⟨nm.toArray⟩
theorem run_append_str {base:Nat} (w:World) (ty:TypeId) (v:Value) (bs:List UInt8) (h:OwnB w base v bs) (nm:List UInt8) (hm:bs.length+nm.length<=100000000) (hb:base<=w.heap.size):
  ∃v' w',(Builtin.append_ #[27,9] ty #[v,sv nm]).run Tryz.prog w=.ok v' w'/\OwnB w' base v' (bs++nm)/\w.grownBy w' v.ownBlock:=by
 obtain⟨i,hi,hz,h1,h2⟩:=info_parts infoB8;have hs: (⟨nm.toArray⟩:ByteArray).size=nm.length:=by show nm.toArray.size=_;simp
 obtain⟨v',w',hr,ho,hg,_⟩:=Lib.run_append_own_string (P:=Tryz.prog) w base 27 9 ty 5 i Tryz.underlying27 Tryz.underlying9 hi hz h1 h2 v bs.length (bs.map bv) h ⟨nm.toArray⟩ (by rw[hs];unfold maxLen;omega) (by rw[hs];omega) hb;refine⟨v',w',hr,?_,hg⟩;rw[hs]at ho;unfold OwnB;rw[jL,List.map_append];have e:Lib.strCells ⟨nm.toArray⟩=nm.map bv:=by simp[Lib.strCells,bv]
 rw[<-e];exact ho
theorem step_append_run {P:Program} {ops:Array Oper} {o:Oper} {a:Act} {w:World} {K:Act->World->Prop} {Q:Exit->Act->World->Prop} {E:Prop} (hg:o.guard=none) (s x:Operand) (t u:TypeId)
  (hop:o.op=.call {callee:=.builtin .append,args:=#[s,x],argTypes:=#[t,u]}) (vs vx:Value) (hs:a.eval s=vs) (hx:a.eval x=vx) {v':Value} {w':World}
  (hr: (Builtin.append_ #[t,u] o.type #[vs,vx]).run P w=.ok v' w') (hK:K (a.put o.dst v') w'):if Region.wanted o (yielded ops a.tmps)=true then Oper.wp P o a w K Q else E:=by
 rw[if_pos (by simp[Region.wanted,hg])];exact Lib.wp_append_run w s x t u hop vs vx hs hx v' w' hr hK
end Mem
namespace Page
open Go.RowKit Go.Deep Mem Crc
open Go.Proofs.YtfgjnpbffppocaaGreatDoor.Frame (own_some)
def pageL (file place:Nat) (b:List UInt8):List UInt8:=marked (four file++(four place++(four b.length++(b++List.replicate (112-b.length) 0))))
theorem pageL_length {file place:Nat} {b:List UInt8} (h:b.length<=112): (pageL file place b).length=128:=by
 unfold pageL;rw[mark_length];simp only[jL,four_length,List.length_replicate]
 omega
theorem four_any {base:Nat} (n:Nat) (hn:n<4294967296) (v:Value) (bs:List UInt8) (w:World) (h:OwnB w base v bs) (hb:base<=w.heap.size) (hm:bs.length<=1000000):
  Calls Tryz.prog 154 #[v,.int .u32 (n:Int)] w λe w'=>∃v',e=.returned v'/\OwnB w' base v' (bs++four n)/\w.grownBy w' v.ownBlock:=by
 obtain⟨i0,hi0,hz0,hz1,hz2⟩:=info_parts infoB8;obtain⟨W,hW⟩:=jl (w.alloc (.cells ((four n).map bv).toArray 5));have hB1:Below w.heap.size w W:=by rw[hW];exact(Below.refl _ w).alloc jn _
 have hO1:W.ownsRow base 5 1 v bs.length (bs.map bv):=own_later h hB1;have hl:=lies_add (xs:=(four n).map bv) (w:=W) (a:=⟨w.heap.size,0,none⟩) (by rw[hW];have:=new_lies w 5 ((four n).map bv).toArray;simpa using this);have hb1:base<=W.heap.size:=Nat.le_trans hb hB1.size
 have E:=jq (show(#[.int .u8 ((n:Int)%256),.int .u8 ((n:Int)/256%256),.int .u8 ((n:Int)/65536%256),.int .u8 ((n:Int)/16777216)]:Array Value)=((four n).map bv).toArray by
  rw[bvI (y:=(n:Int)%256) (n:=n) (by omega),bvI (y:=(n:Int)/256%256) (n:=n/256) (by omega),bvI (y:=(n:Int)/65536%256) (n:=n/65536) (by omega),bvI (y:=(n:Int)/16777216) (n:=n/16777216) (by omega)]
  rfl)
 have HO1:=jq hO1;have HL:=jq hl;have HW:=jq hW;have H4:=jq (oneCell_bytes (four n));have HB1:=jq hB1;clear h hO1 hl hW hB1
 go_enter Tryz.func154,Tryz.ntmps154
 go_wp2_with (first|(at_builtin;rw[E.out,<-HW.out];refine wpList_append_own _ rfl _ _ 27 rfl base 5 i0 (.int .u8 0) 1 1 Tryz.underlying27 hi0 hz0 hz1 hz2 rfl (by decide) _ _ _ rfl HO1.out ⟨w.heap.size,0,none⟩ 4 4 ((four n).map bv) rfl (by rw[jP];rfl) HL.out H4.out (by unfold maxLen;omega) (by omega) hb1 ?_))
 intro v2 w2 hown2 hgrow2 _
 have hO2:OwnB w2 base v2 (bs++four n):=by
  unfold OwnB;rw[jL,List.map_append];exact hown2
 have HO2:=jq hO2;have HG2:=jq (grown_later HB1.out hgrow2);clear hown2 hgrow2 hO2
 go_wp2_with fail
 go_ret
 exact⟨v2,rfl,HO2.out,HG2.out⟩
theorem put_any (file place:Nat) (hf:file<4294967296) (hp:place<4294967296) (a:Option Addr) (cp:Nat) (b:List UInt8) (w:World) (h:Lies w a (b.map bv)) (hm:b.length<=112):
  Calls Tryz.prog 129 #[.int .u32 (file:Int),.int .u32 (place:Int),.slice a b.length cp] w λe w'=>∃v,e=.returned (.tuple #[v,.int .i64 0])/\OwnB w' w.heap.size v (pageL file place b)/\Below w.heap.size w w':=by
 obtain⟨i0,hi0,hz0,hz1,hz2⟩:=info_parts infoB8;obtain⟨n,hn⟩:=jl b.length;have hm2:n<=112:=by omega
 have hnil:OwnB w w.heap.size (.slice none 0 0) []:=World.ownsRow_nil w w.heap.size 5 1;have H1:=jq (four_any file hf _ _ w hnil jn (by simp));have HL:=jq h;have HN:=jq hn;rw[<-hn];clear h hn hm hnil
 go_enter Tryz.func129,Tryz.ntmps129
 go_wp2_with fail
 refine H1.out.mono ?_;rintro e w1 ⟨v1,rfl,hO1,hg1⟩;have hB1:Below w.heap.size w w1:=(Below.refl _ w).grown hg1 jn (λk hk=>by cases hk);have H2:=jq (four_any place hp _ _ w1 hO1 hB1.size (by simp[four_length]));have HO1:=jq hO1;have HB1:=jq hB1;clear hO1 hg1 hB1 H1
 go_wp2_with fail
 refine H2.out.mono ?_;rintro e w2 ⟨v2,rfl,hO2,hg2⟩;have hB2:Below w.heap.size w w2:=HB1.out.grown hg2 HB1.out.size (λq hq=>(HO1.out.lt q hq).1);have H3:=jq (four_any n (by omega) _ _ w2 hO2 hB2.size (by simp[four_length]));have HO2:=jq hO2;have HB2:=jq hB2;clear hO2 hg2 hB2 H2
 go_wp2_with fail
 refine H3.out.mono ?_;rintro e w3 ⟨v3,rfl,hO3,hg3⟩;have hB3:Below w.heap.size w w3:=HB2.out.grown hg3 HB2.out.size (λq hq=>(HO2.out.lt q hq).1);obtain⟨v4,w4,hr4,hO4,hg4⟩:=run_append_bytes w3 27 v3 _ hO3 a cp b (HL.out.later hB3) (by have:=HN.out;simp[four_length];omega) hB3.size;have hB4:Below w.heap.size w w4:=hB3.grown hg4 hB3.size (λq hq=>(hO3.lt q hq).1);rw[<-HN.out]at hr4;obtain⟨g4,c4,e4,_,_,_⟩:=own_some hO4 (by simp only[jL,four_length];omega);subst e4;obtain⟨k4,hk4⟩:=jl ((List.length ([]++four file++four place++four n++b)));have hk4':k4=12+n:=by rw[hk4];simp[four_length,<-HN.out];omega
 obtain⟨v5,w5,hr5,hO5,hg5⟩:=run_append_zeros w4 3 27 Tryz.underlying3 g4 c4 k4 (([]++four file++four place++four n++b).map bv) (by rw[hk4];exact hO4) (112-n) (by omega) hB4.size;have hB5:Below w.heap.size w w5:=hB4.grown hg5 hB4.size (λq hq=>by cases hq;exact(hO4.lt _ rfl).1)
 have hP:OwnB w5 w.heap.size v5 (four file++(four place++(four n++(b++List.replicate (112-n) 0)))):=by
  unfold OwnB
  have e1: (four file++(four place++(four n++(b++List.replicate (112-n) 0)))).length=k4+(112-n):=by
   rw[hk4']
   simp[four_length,<-HN.out]
   omega
  have e2: (four file++(four place++(four n++(b++List.replicate (112-n) 0)))).map bv=([]++four file++four place++four n++b).map bv++List.replicate (112-n) (Value.int .u8 0):=by
   simp[bv]
  rw[e1,e2];exact hO5
 rw[<-hk4]at hr4;have e112: ((112-n:Nat):Int)=112-(n:Int):=by omega
 rw[e112]at hr5;clear e112 hk4';clear hO3 hg3 hO4 hg4 hO5 hg5 hk4 H3 HB2 HO2 HB1 HO1;have HP:=jq hP;have HB5:=jq hB5;obtain⟨a5,c5,e5,_,hL5,_,_⟩:=own_shape hP;have hmk:=mark_any a5 c5 _ w5 hL5 (by simp[four_length];have:=HN.out;omega);rw[<-e5]at hmk;have HMK:=jq hmk;clear e5 hL5 hmk;clear hP hB5 hB4 hB3
 go_wp2_with (first|(at_builtin;refine Lib.wpList_append_run _ rfl _ _ _ _ rfl _ _ rfl rfl _ _ hr4 ?_)|(at_builtin;refine Lib.wpList_append_run _ rfl _ _ _ _ rfl _ _ rfl rfl _ _ hr5 ?_))
 refine HMK.out.mono ?_;rintro e w6 ⟨v6,rfl,hO6,hB6⟩;have hsz:=HB5.out.size;have HO6:=jq (own_mono hO6 hsz);have HB6:=jq (HB5.out.trans (hB6.mono hsz));clear hO6 hB6 HMK hr4 hr5
 go_wp2_with fail
 go_ret2
 refine⟨v6,rfl,?_,HB6.out⟩;have:=HO6.out;unfold pageL;rw[<-HN.out];exact this
def pageN (blk:List UInt8):Nat:=min (blk.getD 8 0).toNat 112
def pageB (blk:List UInt8):List UInt8:=(blk.drop 12).take (pageN blk)
def pageE (blk:List UInt8) (file place:Nat):Int:=if pageL file place (pageB blk)=blk then 0 else 5
theorem pageB_length {blk:List UInt8} (h:blk.length=128): (pageB blk).length=pageN blk:=by
 unfold pageB pageN;rw[jT,List.length_drop,h]
 omega
theorem get_any (file place:Nat) (hf:file<4294967296) (hp:place<4294967296) (a:Option Addr) (cp:Nat) (blk:List UInt8) (w:World) (h:Lies w a (blk.map bv)) (hm:blk.length=128) (hcp:128<=cp):
  Calls Tryz.prog 103 #[.slice a 128 cp,.int .u32 (file:Int),.int .u32 (place:Int)] w λe w'=>∃v,e=.returned (.tuple #[v,.int .i64 (pageE blk file place)])/\OwnB w' w.heap.size v (if pageE blk file place=0 then pageB blk else [])/\Below w.heap.size w w':=by
 obtain⟨pe,hpe⟩:=jl (pageE blk file place);obtain⟨pb,hpb0⟩:=jl ((if pageE blk file place=0 then pageB blk else []))
 have HX:Hid ((pageL file place (pageB blk)==blk)=true/\pe=0/\pb=pageB blk\/(pageL file place (pageB blk)==blk)=false/\pe=5/\pb= []):=by
  refine jq ?_
  by_cases hE:pageL file place (pageB blk)=blk
  ·have h1:pageE blk file place=0:=by unfold pageE;rw[if_pos hE]
   exact .inl ⟨by simpa using hE,by rw[hpe,h1],by rw[hpb0,h1,if_pos rfl]⟩
  ·have h1:pageE blk file place=5:=by unfold pageE;rw[if_neg hE]
   exact .inr ⟨by simpa using hE,by rw[hpe,h1],by rw[hpb0,h1,if_neg (by decide)]⟩
 rw[<-hpb0,<-hpe];clear hpe hpb0;obtain⟨ag,ao,rfl,hag,hc⟩:=h.resolve_left (λe=>by have:=congrArg List.length e;rw[jP,hm]at this;cases this);obtain⟨b8,hb8⟩:∃b8,blk[8]? =some b8:=⟨blk[8]'(by omega),jg _⟩;have c8:=hc 8 (bv b8) (bv_at hb8);obtain⟨n,hn⟩:=jl (pageN blk);have hnb:n=min b8.toNat 112:=by rw[hn];unfold pageN;rw[List.getD_eq_getElem?_getD,hb8];rfl
 obtain⟨x,hx⟩:∃x:Nat,x=b8.toNat:=⟨_,rfl⟩;have hx255:x<=255:=by rw[hx];have:=b8.toNat_lt;omega
 have hmin:min (x:Int) 112=(n:Int):=by omega
 have hn112:n<=112:=by omega
 have hLB:Lies w (some ⟨ag,ao+12,none⟩) ((pageB blk).map bv):=by
  have h1:=(Lies.drop (.inr ⟨ag,ao,rfl,hag,hc⟩:Lies w (some ⟨ag,ao,none⟩) (blk.map bv)) 12).take n;unfold pageB;rw[<-hn,List.map_take,List.map_drop];exact h1
 have hlb: (pageB blk).length=n:=by rw[pageB_length hm,hn]
 have hcl:=clone_any (some ⟨ag,ao+12,none⟩) (cp-12) (pageB blk) w hLB (by omega);rw[hlb]at hcl;have hb8v:bv b8=.int .u8 (b8.toNat:Int):=rfl;rw[hb8v,<-hx]at c8;have hcp12:¬cp=12:=by omega
 have hs1: (12:Int)+n<=cp:=by omega
 have hx2:112<x/\n=112\/x<=112/\n=x:=by omega
 have e12: ((12:Int)+(n:Int)).toNat-12=n:=by omega
 have HC:=jq hcl;have HLB:=jq hlb;have HL:=jq h;have HM:=jq hm;clear hcl hlb hLB hc h hn hnb hb8 hb8v hm hx hmin;rcases hx2 with⟨hx2,hn2⟩|⟨hx2,hn2⟩
 ·subst hn2;have hgt: (112:Int) <(x:Int):=by omega
  go_enter Tryz.func103,Tryz.ntmps103
  go_wp2_with fail
  refine HC.out.mono ?_;rintro e w1 ⟨v1,rfl,hO1,hB1⟩;obtain⟨a1,c1,e1,_,hL1,_,_⟩:=own_shape hO1;have hpb:=put_any file place hf hp a1 c1 (pageB blk) w1 hL1 (by rw[HLB.out];omega);rw[HLB.out]at e1 hpb;rw[<-e1]at hpb;have HPB:=jq hpb;have HO1:=jq hO1;have HB1:=jq hB1;clear hpb hO1 hB1 hL1 e1 HC
  go_wp2_with fail
  refine HPB.out.mono ?_;rintro e w2 ⟨v2,rfl,hO2,hB2⟩;obtain⟨a2,c2,e2,_,hL2,_,_⟩:=own_shape hO2;have hBB:=HB1.out.trans (hB2.mono HB1.out.size);have heq:=equal_any a2 (some ⟨ag,ao,none⟩) c2 cp (pageL file place (pageB blk)) blk w2 hL2 (HL.out.later hBB) (by rw[pageL_length (by rw[HLB.out];omega)];decide);rw[HM.out]at heq;rw[<-e2]at heq;have HEQ:=jq heq;have HBB:=jq hBB;have HO12:=jq (own_later HO1.out hB2);clear heq hO2 hB2 hL2 e2 hBB HPB
  go_wp2_with fail
  refine HEQ.out.mono ?_;rintro e w3 ⟨rfl,m3,hm3⟩;have hB3:Below w2.heap.size w2 w3:=by rw[hm3];exact⟨rfl,rfl,rfl,Nat.le_refl _,λ_ _=>rfl⟩
  have HBB3:=jq (HBB.out.trans (hB3.mono HBB.out.size));have HO3:=jq (own_later HO12.out hB3);rcases HX.out with⟨hq,rfl,rfl⟩|⟨hq,rfl,rfl⟩
  ·rw[hq];clear hm3 hB3 HEQ hq
   go_wp2_with fail
   go_ret2
   exact⟨v1,rfl,HO3.out,HBB3.out⟩
  ·rw[hq];clear hm3 hB3 HEQ hq
   go_wp2_with fail
   go_ret2
   exact⟨_,rfl,World.ownsRow_nil _ _ _ _,HBB3.out⟩
 ·subst hn2;have hgt:¬(112:Int) <(n:Int):=by omega
  have hw12:RowKit.wrap64 (12+(n:Int))=12+(n:Int):=IntWalk.wrap64_in _ (by omega)
  go_enter Tryz.func103,Tryz.ntmps103
  go_wp2_with fail
  refine HC.out.mono ?_;rintro e w1 ⟨v1,rfl,hO1,hB1⟩;obtain⟨a1,c1,e1,_,hL1,_,_⟩:=own_shape hO1;have hpb:=put_any file place hf hp a1 c1 (pageB blk) w1 hL1 (by rw[HLB.out];omega);rw[HLB.out]at e1 hpb;rw[<-e1]at hpb;have HPB:=jq hpb;have HO1:=jq hO1;have HB1:=jq hB1;clear hpb hO1 hB1 hL1 e1 HC
  go_wp2_with fail
  refine HPB.out.mono ?_;rintro e w2 ⟨v2,rfl,hO2,hB2⟩;obtain⟨a2,c2,e2,_,hL2,_,_⟩:=own_shape hO2;have hBB:=HB1.out.trans (hB2.mono HB1.out.size);have heq:=equal_any a2 (some ⟨ag,ao,none⟩) c2 cp (pageL file place (pageB blk)) blk w2 hL2 (HL.out.later hBB) (by rw[pageL_length (by rw[HLB.out];omega)];decide);rw[HM.out]at heq;rw[<-e2]at heq;have HEQ:=jq heq;have HBB:=jq hBB;have HO12:=jq (own_later HO1.out hB2);clear heq hO2 hB2 hL2 e2 hBB HPB
  go_wp2_with fail
  refine HEQ.out.mono ?_;rintro e w3 ⟨rfl,m3,hm3⟩;have hB3:Below w2.heap.size w2 w3:=by rw[hm3];exact⟨rfl,rfl,rfl,Nat.le_refl _,λ_ _=>rfl⟩
  have HBB3:=jq (HBB.out.trans (hB3.mono HBB.out.size));have HO3:=jq (own_later HO12.out hB3);rcases HX.out with⟨hq,rfl,rfl⟩|⟨hq,rfl,rfl⟩
  ·rw[hq];clear hm3 hB3 HEQ hq
   go_wp2_with fail
   go_ret2
   exact⟨v1,rfl,HO3.out,HBB3.out⟩
  ·rw[hq];clear hm3 hB3 HEQ hq
   go_wp2_with fail
   go_ret2
   exact⟨_,rfl,World.ownsRow_nil _ _ _ _,HBB3.out⟩
end Page
end Go.Proofs.YtfgjnpbffppocaaGreatDoor
