/- Part. -/
import Derived.Test.YtfgjnpbffppocaaGreatDoorF0
import Derived.Test.YtfgjnpbffppocaaGreatDoorF0Q
import Derived.Test.YtfgjnpbffppocaaGreatDoorF13
import Derived.Test.YtfgjnpbffppocaaGreatDoorF19
import Derived.Test.YtfgjnpbffppocaaGreatDoorF32
set_option maxHeartbeats 400000
set_option maxRecDepth 100000
namespace Go.Proofs.YtfgjnpbffppocaaGreatDoor
namespace Man
open Go.RowKit Go.Deep Mem Crc Disk Dk
def slotJ (bl:List (List UInt8)) (n j:Nat):List UInt8:=((bl.drop (n*16)).take j).flatten
def slotB (bl:List (List UInt8)) (n:Nat):List UInt8:=slotJ bl n 16
theorem slotJ_succ {bl:List (List UInt8)} {n j:Nat} {b:List UInt8} (h:bl[n*16+j]? =some b):slotJ bl n (j+1)=slotJ bl n j++b:=by
 unfold slotJ;rw[List.take_add_one,List.getElem?_drop,h,List.flatten_append]
 simp
theorem slotJ_length {bl:List (List UInt8)} {n:Nat} (h:∀b∈bl,b.length=128):∀{j:Nat},n*16+j<=bl.length->(slotJ bl n j).length=j*128
 |0,_=>by simp[slotJ]
 |j+1,hj=>by
  have hb:bl[n*16+j]? =some bl[n*16+j]:=jg (by omega);rw[slotJ_succ hb,jL,slotJ_length h (by omega),h _ (List.getElem_mem _)]
  omega
theorem slotB_length {bl:List (List UInt8)} {n:Nat} (h:∀b∈bl,b.length=128) (hn:n<2) (h33:33<=bl.length): (slotB bl n).length=2048:=slotJ_length h (by omega)
theorem slot_on {d g:Nat} {wv:Value} {m:DM} (n:Nat) (hn:n<2) {w:World} (h:Dk w d g wv m) (hoff:m.off=false) (hwt:m.wt= []) (h33:33<=m.bl.length):
  Calls Tryz.prog 73 #[.pointer (some ⟨d,0,none⟩),.int .i64 (n:Int)] w λe w'=>∃v,e=.returned (.tuple #[v,.int .i64 0])/\OwnB w' w.heap.size v (slotB m.bl n)/\Below w.heap.size w w':=by
 have hwv:=h.nil hwt;subst hwv;have H:=jq h;clear h
 go_enter Tryz.func73,Tryz.ntmps73
 go_wp2_with fail
 go_loopw[10,6] (λi o wr=>∃j:Nat,j<=16/\i=.int .i64 (j:Int)/\Hid (OwnB wr w.heap.size o (slotJ m.bl n j))/\Hid (Below w.heap.size w wr)) (λi _ _=>16-(intOf i).toNat)
 case atStart=>exact⟨0,by omega,rfl,jq (World.ownsRow_nil _ _ _ _),jq (Below.refl _ _)⟩
 case round=>
  obtain⟨j,hj,rfl,hO,hB⟩:=hrel
  by_cases hj16:j<16
  ·have hd:decide ((j:Int) <16)=true:=jd (by omega);obtain⟨b,hb⟩:∃b,m.bl[n*16+j]? =some b:=⟨m.bl[n*16+j]'(by omega),jg _⟩;have h128:b.length=128:=H.out.len b (jM hb);have hR:=jq (read_on (n*16+j) (H.out.later hB.out) hoff hb);have hsz:=hB.out.size;have hcast: ((n*16+j:Nat):Int)=(n:Int)*16+(j:Int):=by push_cast;rfl
   rw[hcast]at hR;have HSJ:=jq (slotJ_succ hb);have HSL:=jq (slotJ_length (n:=n) H.out.len (j:=j) (by omega));have H128:=jq h128;clear hcast hb h128
   go_wp2_with fail
   refine hR.out.mono ?_;rintro e w1 ⟨a,rfl,hL,hB1⟩;have hO1:=own_later hO.out hB1;obtain⟨v2,w2,hr2,hO2,hg2⟩:=run_append_bytes w1 27 _ _ hO1 a 128 b hL (by rw[HSL.out,H128.out];omega) (Nat.le_trans hsz hB1.size);rw[H128.out]at hr2;rw[<-HSJ.out]at hO2;have hB2:Below w.heap.size w w2:=(hB.out.trans (hB1.mono hsz)).grown hg2 (Nat.le_trans hsz hB1.size) (λq hq=>(hO1.lt q hq).1);have HB2:=jq hB2;have HO2:=jq hO2;clear hO1 hL hB1 hO2 hg2 hB2 hd hO hB hR
   go_wp2_with (first|(at_builtin;refine Lib.wpList_append_run _ rfl _ _ _ _ rfl _ _ rfl rfl _ _ hr2 ?_))
   exact⟨⟨j+1,hj16,by simp,HO2,HB2⟩,by simp[intOf];omega⟩
  ·obtain rfl:j=16:=by omega
   have hd:decide ((16:Int) <16)=false:=by decide
   go_wp2_with fail
   go_ret2
   exact⟨_,rfl,hO.out,hB.out⟩
theorem isnt_any (c:UInt8) (w:World):Calls Tryz.prog 75 #[bv c] w λe w'=>e=.returned (.bool (c !=0))/\w'=w:=by
 obtain⟨x,hx⟩:=jl c.toNat;have hcv:bv c=.int .u8 (x:Int):=by rw[hx];rfl
 have hc: (c !=0)= !((x:Int)==0):=by
  rw[Bool.eq_iff_iff];simp only[bne_iff_ne,ne_eq,Bool.not_eq_true',beq_eq_false_iff_ne];rw[hx]
  constructor
  ·exact λh h2=>h (UInt8.toNat_inj.1 (by simpa using h2))
  ·exact λh h2=>h (by rw[h2];rfl)
 rw[hcv,hc];clear hcv hc hx
 go_enter Tryz.func75,Tryz.ntmps75
 go_wp2_with fail
 go_ret
 exact⟨rfl,rfl⟩
theorem index_any (a:Option Addr) (cp:Nat) (bs:List UInt8) (w:World) (h:Lies w a (bs.map bv)) (hn:bs.length<=4000000):
  Calls Tryz.prog 110 #[.slice a bs.length cp,.func (.func 75) #[] #[]] w λe w'=>∃i:Int,e=.returned (.int .i64 i)/\decide (0<=i)=bs.any (·!=0)/\w'=w:=by
 have H:=jq h;obtain⟨n,hnn⟩:=jl bs.length;rw[<-hnn]at hn⊢;have HN:=jq hnn;clear h hnn
 go_enter Tryz.func110,Tryz.ntmps110
 go_wp2_with fail
 go_loopw[8] (λi wr=>∃j:Nat,j<=n/\i=.int .i64 (j:Int)/\wr=w/\Hid ((bs.take j).any (·!=0)=false)) (λi _=>n-(intOf i).toNat)
 case atStart=>exact⟨0,by omega,rfl,rfl,jq rfl⟩
 case round=>
  obtain⟨j,hj,rfl,rfl,hz⟩:=hrel
  by_cases hjn:j<n
  ·have hjd:decide ((j:Int) <(n:Int))=true:=jd (by omega);obtain⟨c,hc⟩:∃c,bs[j]? =some c:=⟨bs[j]'(by rw[<-HN.out];exact hjn),jg _⟩;obtain⟨g,off,rfl,_,hcs⟩:=H.out.resolve_left (λe=>by rw[List.map_eq_nil_iff.1 e]at hc;simp at hc);have c0:wr.cell? ⟨g,off+j,none⟩=some (bv c):=hcs j (bv c) (bv_at hc);obtain⟨cv,hcv⟩:=jl (bv c);have hIS:=isnt_any c wr;have hst: (bs.take (j+1)).any (·!=0)=((bs.take j).any (·!=0)||(c !=0)):=by rw[List.take_add_one,hc,List.any_append];simp
   have hin: (c !=0)=true->bs.any (·!=0)=true:=λh=>List.any_eq_true.2 ⟨c,jM hc,h⟩
   rw[hz.out,Bool.false_or]at hst;obtain⟨nz,hnz⟩:=jl ((c !=0));rw[<-hcv]at c0 hIS;rw[<-hnz]at hIS hst hin;have HIS:=jq hIS;have HST:=jq hst;have HIN:=jq hin;clear hcs hc hcv hIS hst hin hnz hz;cases nz
   ·go_wp2_with (first|(go_at_call 75;refine HIS.out.mono ?_;rintro e w1 ⟨rfl,rfl⟩))
    exact⟨⟨j+1,hjn,by simp,by first|rfl|trivial,HST⟩,by simp[intOf];omega⟩
   ·go_wp2_with (first|(go_at_call 75;refine HIS.out.mono ?_;rintro e w1 ⟨rfl,rfl⟩))
    go_ret
    exact⟨_,rfl,by rw[HIN.out (by trivial)];exact jd (by omega),rfl⟩
  ·obtain rfl:n=j:=by omega
   have hjd:decide ((n:Int) <(n:Int))=false:=jf (by omega);have hz2:=hz.out;rw[jW (by rw[HN.out];exact Nat.le_refl _)]at hz2;have HZ:=jq hz2;clear hz2 hz
   go_wp2_with fail
   go_ret
   exact⟨_,rfl,by rw[HZ.out];rfl,rfl⟩
theorem contains_any' (a:Option Addr) (cp:Nat) (bs:List UInt8) (w:World) (h:Lies w a (bs.map bv)) (hn:bs.length<=4000000):
  Calls Tryz.prog 74 #[.slice a bs.length cp,.func (.func 75) #[] #[]] w λe w'=>e=.returned (.bool (bs.any (·!=0)))/\w'=w:=by
 have H:=jq (index_any a cp bs w h hn);clear h;obtain⟨n,hnn⟩:=jl bs.length;rw[<-hnn]at H⊢;obtain⟨z,hz⟩:=jl (bs.any (·!=0));rw[<-hz]at H⊢;clear hnn hz hn
 go_enter Tryz.func74,Tryz.ntmps74
 go_wp2_with fail
 refine H.out.mono ?_;rintro e w1 ⟨i,rfl,hi,rfl⟩
 go_wp2_with fail
 go_ret
 exact⟨by rw[<-hi];rfl,rfl⟩
end Man
end Go.Proofs.YtfgjnpbffppocaaGreatDoor
