/- A part of the proof. -/
import Derived.Test.YtbfochdoeibofaaGreatDoorG0
import Derived.Test.YtbfochdoeibofaaGreatDoorG0H
import Derived.Test.YtbfochdoeibofaaGreatDoorG0Q
import Derived.Test.YtbfochdoeibofaaGreatDoorG31
import Derived.Test.YtbfochdoeibofaaGreatDoorG33
import Derived.Test.YtbfochdoeibofaaGreatDoorG34
set_option maxHeartbeats 8000000
set_option maxRecDepth 200000
namespace Go.Proofs.YtbfochdoeibofaaGreatDoor
namespace Full
open Go.RowKit Go.Deep Mem Crc Go.Maps Dk Mani RefF Go.Proofs.YtbfochdoeibofaaGreatDoor.Read Man
open Store (Chg none' nv Files)
open RefD (flatW madeL Mixed2 DV)
def FallsAns (B p cnt:Nat) (w:World) (e:Ending) (w':World):Prop:=∃(S:PD) (T:KD) (D:Nat->Prop) (m:DM),e=.returned (.tuple #[.slice T.ma T.LM.length T.mc,.agg #[.int .u64 (T.kv:Int),.int .u32 (T.kn:Int),.slice T.na T.lN.length T.nc],DV T.bw.length (.slice T.wa 32 T.wc),.bool true])/\FState B p cnt w' S T D m/\Below B w w'
attribute [local go_sem] Oper.semAt_some
theorem falls_any {B p cnt:Nat} {w:World} {S:PD} (h:Play False B p cnt 0 w S) (a:Option Addr) (c:Nat) (l:List AR) (hA:∀V,Below B w V->ActsIn V a l) (hn:l.length<=60) (hx:∀x∈l,x.b.length<=1000/\x.nm.length<=100):
  Calls Tryz.prog 32 #[.pointer (some ⟨p,0,none⟩),.slice a l.length c] w (FallsAns B p cnt w):=by
 obtain⟨n,hnn⟩:=jl l.length;rw[<-hnn];obtain⟨W1,hW1⟩:=jl ((w.alloc (.cells #[.int .u64 0,.int .u32 0,.slice none 0 0] 34)).alloc (.cells #[.int .i64 0,.bool false,.int .i64 0,.slice none 0 0,.slice none 0 0] 74));obtain⟨r5,hr5⟩:=jl w.heap.size;obtain⟨r6,hr6⟩:=jl (w.heap.size+1);have hB1:Below w.heap.size w W1:=by rw[hW1];exact((Below.refl _ w).alloc jn _).alloc (by simp) _
 have hb5:Blk W1 r5 34 #[.int .u64 0,.int .u32 0,.slice none 0 0]:=by
  rw[hW1,hr5];exact(Blk.new w _ _).below ((Below.refl _ _).alloc jn _) (by simp)
 have hb6:Blk W1 r6 74 #[.int .i64 0,.bool false,.int .i64 0,.slice none 0 0,.slice none 0 0]:=by
  rw[hW1,hr6];have h:=Blk.new (w.alloc (.cells #[.int .u64 0,.int .u32 0,.slice none 0 0] 34)) 74 #[.int .i64 0,.bool false,.int .i64 0,.slice none 0 0,.slice none 0 0]
  simpa using h
 have hP1:=h.later hB1;obtain⟨c0,c1,c2,c3,c4,c5,c6,c7,c8⟩:=hP1.cells;obtain⟨sd,hsd⟩:=jl S.d;obtain⟨sv,hsv⟩:=jl S.ver;obtain⟨sn,hsn⟩:=jl S.next;obtain⟨sl,hsl⟩:=jl S.l.length;obtain⟨sa,hsa⟩:=jl S.a;obtain⟨sc,hsc⟩:=jl S.c;obtain⟨sh,hsh⟩:=jl S.ah;obtain⟨sk,hsk⟩:=jl S.LH.length;obtain⟨sq,hsq⟩:=jl S.hc
 have hcell:∀V,Below W1.heap.size W1 V->V.cell? ⟨p,1,none⟩=some (.pointer (some ⟨sd,0,none⟩))/\V.cell? ⟨p,2,none⟩=some (.int .u64 (sv:Int))/\V.cell? ⟨p,3,none⟩=some (.int .u32 (sn:Int))/\V.cell? ⟨p,4,none⟩=some (.slice sa sl sc)/\V.cell? ⟨p,5,none⟩=some (.slice sh sk sq):=λV hV=>by
  obtain⟨_,d1,d2,d3,d4,d5,_⟩:=(hP1.later hV).cells;rw[<-hsd]at d1;rw[<-hsv]at d2;rw[<-hsn]at d3;rw[<-hsa,<-hsl,<-hsc]at d4;rw[<-hsh,<-hsk,<-hsq]at d5;exact⟨d1,d2,d3,d4,d5⟩
 have hsl2:∀V,Below W1.heap.size W1 V->Calls Tryz.prog 36 #[.pointer (some ⟨sd,0,none⟩)] V λe w'=>∃va vc,e=.returned (DV cnt (.slice va 32 vc))/\Lies w' va (flatW (madeL S.m.bl))/\(∀k,Mem.blk va=some k->V.heap.size<=k/\k<w'.heap.size)/\Below V.heap.size V w':=λV hV=>by rw[hsd];exact(hP1.later hV).slotsOf
 have HC:=jq hcell;have HSL:=jq hsl2;have HP:=jq h;have HACT:=jq hA;have HLEN:=jq (And.intro hnn hn);have HX:=jq hx;have HB1:=jq hB1;have HR5:=jq hb5;have HR6:=jq hb6;have hs1:W1.heap.size=w.heap.size+2:=by rw[hW1];simp
 have HER:=jq (And.intro hr5 (And.intro hr6 hs1));have HSQ:=jq (And.intro hsv (And.intro hsn (And.intro hsa (And.intro hsl (And.intro hsc (And.intro hsh (And.intro hsk hsq)))))));clear hP1 c0 c1 c2 c3 c4 c5 c6 c7 c8 hsd hsv hsn hsl hsa hsc hsh hsk hsq hcell hsl2 h hA hnn hn hx hB1 hb5 hb6 hs1
 go_enter Tryz.func32,Tryz.ntmps32
 go_wp2_with fail
 rw[<-hW1,<-hr6,<-hr5];clear hW1 hr5 hr6
 go_cut[8,9,10] (λs8 s9 s10 wx=>∃(b9 b10:Nat) (va:Option Addr) (vc:Nat),s8=.slice sh sk sq/\s9=.pointer (some ⟨b9,0,none⟩)/\s10=.pointer (some ⟨b10,0,none⟩)/\Hid (Lies wx va (flatW (madeL S.m.bl)))/\Hid (∀k,Mem.blk va=some k->W1.heap.size<=k/\k<wx.heap.size/\k≠b9/\k≠b10)/\Hid (Below W1.heap.size W1 wx)/\Hid (Blk wx b9 34 #[.int .u64 (sv:Int),.int .u32 (sn:Int),.slice sa sl sc])/\Hid (Blk wx b10 74 #[.int .i64 (cnt:Int),.bool false,.int .i64 (-1),.slice va 32 vc,.slice none 0 0])/\Hid (b9≠b10/\W1.heap.size<=b9/\W1.heap.size<=b10))
 case first=>
  have HW0:Hid (Below W1.heap.size W1 W1.drew):=jq (Below.refl _ W1).drew;have hS0:=HC.out W1.drew HW0.out;refine wp_region_noPanic ?_;refine wp_region_held_drew (S:=λw'=>w'.cell? ⟨p,1,none⟩=some (.pointer (some ⟨sd,0,none⟩))/\w'.cell? ⟨p,2,none⟩=some (.int .u64 (sv:Int))/\w'.cell? ⟨p,3,none⟩=some (.int .u32 (sn:Int))/\w'.cell? ⟨p,4,none⟩=some (.slice sa sl sc)/\w'.cell? ⟨p,5,none⟩=some (.slice sh sk sq)) (by kernel_rfl) hS0 (λhHeld=>?_);clear hS0;refine' jk 0 ?_
  try simp only[Act.put,ji,js,ju]
  refine' jk 1 ?_
  try simp only[Act.put,ji,js,ju]
  refine' jk 2 ?_
  try simp only[Act.put,ji,js,ju]
  refine' jk 3 ?_
  try simp only[Act.put,ji,js,ju]
  refine' jk 4 ?_
  try simp only[Act.put,ji,js,ju]
  refine' jk 5 ?_
  try simp only[Act.put,ji,js,ju]
  refine' jk 6 ?_
  try simp only[Act.put,ji,js,ju]
  refine' jk 7 ?_
  try simp only[Act.put,ji,js,ju]
  refine' jk 8 ?_
  try simp only[Act.put,ji,js,ju]
  refine' jk 9 ?_
  try simp only[Act.put,ji,js,ju]
  refine' jk 10 ?_
  try simp only[Act.put,ji,js,ju]
  refine' jk 11 ?_
  try simp only[Act.put,ji,js,ju]
  refine wpAnyH_ready (rs:=[12,13,14]) (by kernel_rfl) (by simp) ?_;refine' AllReadyH.cons (o:=?o13) ?ho13 (λK hK=>?step13) ?more13
  case ho13=>(simp only[jt,jb,ja];rfl)
  case' step13=>
   go_simp
   (go_at_call 36;refine(HSL.out _ HW0.out).mono ?_;rintro e V1 ⟨va,vc,rfl,hL,hg,hB⟩;have HLV1:=jq hL;have HG:=jq hg;have HS1:=jq hB;have HW1:=jq (HW0.out.trans (hB.mono HW0.out.size));clear hL hg hB;dsimp only[DV])
   refine hK.out _ _ ?_ (λhHeld=>?_)
   ·exact HC.out _ HW1.out
   clear hK K
   try simp only[Act.put,ji,js,ju]
   refine wpAnyH_ready (rs:=[13,14]) (by kernel_rfl) (by simp) ?_;refine' AllReadyH.cons (o:=?o14) ?ho14 (λK hK=>?step14) ?more14
   case ho14=>(simp only[jt,jb,ja];rfl)
   case' step14=>
    go_simp;refine hK.out _ _ ?_ (λhHeld=>?_)
    ·exact HC.out _ (HW1.out.alloc HW1.out.size _)
    clear hK K
    try simp only[Act.put,ji,js,ju]
    obtain⟨V2,hV2⟩:=jl (V1.alloc (.cells #[.int .u64 0,.int .u32 0,.slice none 0 0] 34));obtain⟨b9,hb9⟩:=jl V1.heap.size;have HS2:Hid (Below V1.heap.size V1 V2):=jq (by rw[hV2];exact(Below.refl _ _).alloc jn _);have HW2:Hid (Below W1.heap.size W1 V2):=jq (HW1.out.trans (HS2.out.mono HW1.out.size));have HMV2:Hid (Blk V2 b9 34 #[.int .u64 0,.int .u32 0,.slice none 0 0]):=jq (by rw[hV2,hb9];exact Blk.new _ _ _);have HEb9:Hid (V1.heap.size<=b9/\b9<V2.heap.size/\b9<=V1.heap.size):=jq ⟨Nat.le_of_eq hb9.symm,HMV2.out.lt,Nat.le_of_eq hb9⟩;rw[<-hV2]at hHeld⊢;rw[<-hb9];clear hV2 hb9;have HLV2:=jq (HLV1.out.later HS2.out);refine wpAnyH_ready (rs:=[14]) (by kernel_rfl) (by simp) ?_;refine' AllReadyH.cons (o:=?o15) ?ho15 (λK hK=>?step15) ?more15
    case ho15=>(simp only[jt,jb,ja];rfl)
    case' step15=>
     go_simp;refine hK.out _ _ ?_ (λhHeld=>?_)
     ·exact HC.out _ (HW2.out.alloc HW2.out.size _)
     clear hK K
     try simp only[Act.put,ji,js,ju]
     obtain⟨V3,hV3⟩:=jl (V2.alloc (.cells #[.int .i64 0,.bool false,.int .i64 0,.slice none 0 0,.slice none 0 0] 74));obtain⟨b10,hb10⟩:=jl V2.heap.size;have HS3:Hid (Below V2.heap.size V2 V3):=jq (by rw[hV3];exact(Below.refl _ _).alloc jn _);have HW3:Hid (Below W1.heap.size W1 V3):=jq (HW2.out.trans (HS3.out.mono HW2.out.size));have HDV3:Hid (Blk V3 b10 74 #[.int .i64 0,.bool false,.int .i64 0,.slice none 0 0,.slice none 0 0]):=jq (by rw[hV3,hb10];exact Blk.new _ _ _);have HEb10:Hid (V2.heap.size<=b10/\b10<V3.heap.size/\b10<=V2.heap.size):=jq ⟨Nat.le_of_eq hb10.symm,HDV3.out.lt,Nat.le_of_eq hb10⟩;rw[<-hV3]at hHeld⊢;rw[<-hb10];clear hV3 hb10;have HLV3:=jq (HLV2.out.later HS3.out);have HMV3:=jq (HMV2.out.below HS3.out HMV2.out.lt);have HMf:=HMV3;have HDf:=HDV3;have HLf:=HLV3
    case more15=>exact AllReadyH.nil
   case' more14=>
    refine' AllReadyH.cons (o:=?o16) ?ho16 (λK hK=>?step16) ?more16
    case ho16=>(simp only[jt,jb,ja];rfl)
    case' step16=>
     go_simp;refine hK.out _ _ ?_ (λhHeld=>?_)
     ·exact HC.out _ (HW1.out.alloc HW1.out.size _)
     clear hK K
     try simp only[Act.put,ji,js,ju]
     obtain⟨V2,hV2⟩:=jl (V1.alloc (.cells #[.int .i64 0,.bool false,.int .i64 0,.slice none 0 0,.slice none 0 0] 74));obtain⟨b10,hb10⟩:=jl V1.heap.size;have HS2:Hid (Below V1.heap.size V1 V2):=jq (by rw[hV2];exact(Below.refl _ _).alloc jn _);have HW2:Hid (Below W1.heap.size W1 V2):=jq (HW1.out.trans (HS2.out.mono HW1.out.size));have HDV2:Hid (Blk V2 b10 74 #[.int .i64 0,.bool false,.int .i64 0,.slice none 0 0,.slice none 0 0]):=jq (by rw[hV2,hb10];exact Blk.new _ _ _);have HEb10:Hid (V1.heap.size<=b10/\b10<V2.heap.size/\b10<=V1.heap.size):=jq ⟨Nat.le_of_eq hb10.symm,HDV2.out.lt,Nat.le_of_eq hb10⟩;rw[<-hV2]at hHeld⊢;rw[<-hb10];clear hV2 hb10;have HLV2:=jq (HLV1.out.later HS2.out);refine wpAnyH_ready (rs:=[13]) (by kernel_rfl) (by simp) ?_;refine' AllReadyH.cons (o:=?o17) ?ho17 (λK hK=>?step17) ?more17
     case ho17=>(simp only[jt,jb,ja];rfl)
     case' step17=>
      go_simp;refine hK.out _ _ ?_ (λhHeld=>?_)
      ·exact HC.out _ (HW2.out.alloc HW2.out.size _)
      clear hK K
      try simp only[Act.put,ji,js,ju]
      obtain⟨V3,hV3⟩:=jl (V2.alloc (.cells #[.int .u64 0,.int .u32 0,.slice none 0 0] 34));obtain⟨b9,hb9⟩:=jl V2.heap.size;have HS3:Hid (Below V2.heap.size V2 V3):=jq (by rw[hV3];exact(Below.refl _ _).alloc jn _);have HW3:Hid (Below W1.heap.size W1 V3):=jq (HW2.out.trans (HS3.out.mono HW2.out.size));have HMV3:Hid (Blk V3 b9 34 #[.int .u64 0,.int .u32 0,.slice none 0 0]):=jq (by rw[hV3,hb9];exact Blk.new _ _ _);have HEb9:Hid (V2.heap.size<=b9/\b9<V3.heap.size/\b9<=V2.heap.size):=jq ⟨Nat.le_of_eq hb9.symm,HMV3.out.lt,Nat.le_of_eq hb9⟩;rw[<-hV3]at hHeld⊢;rw[<-hb9];clear hV3 hb9;have HLV3:=jq (HLV2.out.later HS3.out);have HDV3:=jq (HDV2.out.below HS3.out HDV2.out.lt);have HMf:=HMV3;have HDf:=HDV3;have HLf:=HLV3
     case more17=>exact AllReadyH.nil
    case more16=>exact AllReadyH.nil
  case' more13=>
   refine' AllReadyH.cons (o:=?o18) ?ho18 (λK hK=>?step18) ?more18
   case ho18=>(simp only[jt,jb,ja];rfl)
   case' step18=>
    go_simp;refine hK.out _ _ ?_ (λhHeld=>?_)
    ·exact HC.out _ (HW0.out.alloc HW0.out.size _)
    clear hK K
    try simp only[Act.put,ji,js,ju]
    obtain⟨V1,hV1⟩:=jl ((W1.alloc (.cells #[.int .u64 0,.int .u32 0,.slice none 0 0] 34)).drew);obtain⟨b9,hb9⟩:=jl W1.heap.size;have HS1:Hid (Below W1.drew.heap.size W1.drew V1):=jq (by rw[hV1];exact(Below.refl _ _).alloc jn _);have HW1:Hid (Below W1.heap.size W1 V1):=jq (HW0.out.trans (HS1.out.mono HW0.out.size));have HMV1:Hid (Blk V1 b9 34 #[.int .u64 0,.int .u32 0,.slice none 0 0]):=jq (by rw[hV1,hb9];exact Blk.new _ _ _);have HEb9:Hid (W1.drew.heap.size<=b9/\b9<V1.heap.size/\b9<=W1.drew.heap.size):=jq ⟨Nat.le_of_eq hb9.symm,HMV1.out.lt,Nat.le_of_eq hb9⟩;rw[<-hV1]at hHeld⊢;rw[<-hb9];clear hV1 hb9;refine wpAnyH_ready (rs:=[12,14]) (by kernel_rfl) (by simp) ?_;refine' AllReadyH.cons (o:=?o19) ?ho19 (λK hK=>?step19) ?more19
    case ho19=>(simp only[jt,jb,ja];rfl)
    case' step19=>
     go_simp
     (go_at_call 36;refine(HSL.out _ HW1.out).mono ?_;rintro e V2 ⟨va,vc,rfl,hL,hg,hB⟩;have HLV2:=jq hL;have HG:=jq hg;have HS2:=jq hB;have HW2:=jq (HW1.out.trans (hB.mono HW1.out.size));clear hL hg hB;dsimp only[DV])
     refine hK.out _ _ ?_ (λhHeld=>?_)
     ·exact HC.out _ HW2.out
     clear hK K
     try simp only[Act.put,ji,js,ju]
     have HMV2:=jq (HMV1.out.below HS2.out HMV1.out.lt);refine wpAnyH_ready (rs:=[14]) (by kernel_rfl) (by simp) ?_;refine' AllReadyH.cons (o:=?o20) ?ho20 (λK hK=>?step20) ?more20
     case ho20=>(simp only[jt,jb,ja];rfl)
     case' step20=>
      go_simp;refine hK.out _ _ ?_ (λhHeld=>?_)
      ·exact HC.out _ (HW2.out.alloc HW2.out.size _)
      clear hK K
      try simp only[Act.put,ji,js,ju]
      obtain⟨V3,hV3⟩:=jl (V2.alloc (.cells #[.int .i64 0,.bool false,.int .i64 0,.slice none 0 0,.slice none 0 0] 74));obtain⟨b10,hb10⟩:=jl V2.heap.size;have HS3:Hid (Below V2.heap.size V2 V3):=jq (by rw[hV3];exact(Below.refl _ _).alloc jn _);have HW3:Hid (Below W1.heap.size W1 V3):=jq (HW2.out.trans (HS3.out.mono HW2.out.size));have HDV3:Hid (Blk V3 b10 74 #[.int .i64 0,.bool false,.int .i64 0,.slice none 0 0,.slice none 0 0]):=jq (by rw[hV3,hb10];exact Blk.new _ _ _);have HEb10:Hid (V2.heap.size<=b10/\b10<V3.heap.size/\b10<=V2.heap.size):=jq ⟨Nat.le_of_eq hb10.symm,HDV3.out.lt,Nat.le_of_eq hb10⟩;rw[<-hV3]at hHeld⊢;rw[<-hb10];clear hV3 hb10;have HMV3:=jq (HMV2.out.below HS3.out HMV2.out.lt);have HLV3:=jq (HLV2.out.later HS3.out);have HMf:=HMV3;have HDf:=HDV3;have HLf:=HLV3
     case more20=>exact AllReadyH.nil
    case' more19=>
     refine' AllReadyH.cons (o:=?o21) ?ho21 (λK hK=>?step21) ?more21
     case ho21=>(simp only[jt,jb,ja];rfl)
     case' step21=>
      go_simp;refine hK.out _ _ ?_ (λhHeld=>?_)
      ·exact HC.out _ (HW1.out.alloc HW1.out.size _)
      clear hK K
      try simp only[Act.put,ji,js,ju]
      obtain⟨V2,hV2⟩:=jl (V1.alloc (.cells #[.int .i64 0,.bool false,.int .i64 0,.slice none 0 0,.slice none 0 0] 74));obtain⟨b10,hb10⟩:=jl V1.heap.size;have HS2:Hid (Below V1.heap.size V1 V2):=jq (by rw[hV2];exact(Below.refl _ _).alloc jn _);have HW2:Hid (Below W1.heap.size W1 V2):=jq (HW1.out.trans (HS2.out.mono HW1.out.size));have HDV2:Hid (Blk V2 b10 74 #[.int .i64 0,.bool false,.int .i64 0,.slice none 0 0,.slice none 0 0]):=jq (by rw[hV2,hb10];exact Blk.new _ _ _);have HEb10:Hid (V1.heap.size<=b10/\b10<V2.heap.size/\b10<=V1.heap.size):=jq ⟨Nat.le_of_eq hb10.symm,HDV2.out.lt,Nat.le_of_eq hb10⟩;rw[<-hV2]at hHeld⊢;rw[<-hb10];clear hV2 hb10;have HMV2:=jq (HMV1.out.below HS2.out HMV1.out.lt);refine wpAnyH_ready (rs:=[12]) (by kernel_rfl) (by simp) ?_;refine' AllReadyH.cons (o:=?o22) ?ho22 (λK hK=>?step22) ?more22
      case ho22=>(simp only[jt,jb,ja];rfl)
      case' step22=>
       go_simp
       (go_at_call 36;refine(HSL.out _ HW2.out).mono ?_;rintro e V3 ⟨va,vc,rfl,hL,hg,hB⟩;have HLV3:=jq hL;have HG:=jq hg;have HS3:=jq hB;have HW3:=jq (HW2.out.trans (hB.mono HW2.out.size));clear hL hg hB;dsimp only[DV])
       refine hK.out _ _ ?_ (λhHeld=>?_)
       ·exact HC.out _ HW3.out
       clear hK K
       try simp only[Act.put,ji,js,ju]
       have HMV3:=jq (HMV2.out.below HS3.out HMV2.out.lt);have HDV3:=jq (HDV2.out.below HS3.out HDV2.out.lt);have HMf:=HMV3;have HDf:=HDV3;have HLf:=HLV3
      case more22=>exact AllReadyH.nil
     case more21=>exact AllReadyH.nil
   case' more18=>
    refine' AllReadyH.cons (o:=?o23) ?ho23 (λK hK=>?step23) ?more23
    case ho23=>(simp only[jt,jb,ja];rfl)
    case' step23=>
     go_simp;refine hK.out _ _ ?_ (λhHeld=>?_)
     ·exact HC.out _ (HW0.out.alloc HW0.out.size _)
     clear hK K
     try simp only[Act.put,ji,js,ju]
     obtain⟨V1,hV1⟩:=jl ((W1.alloc (.cells #[.int .i64 0,.bool false,.int .i64 0,.slice none 0 0,.slice none 0 0] 74)).drew);obtain⟨b10,hb10⟩:=jl W1.heap.size;have HS1:Hid (Below W1.drew.heap.size W1.drew V1):=jq (by rw[hV1];exact(Below.refl _ _).alloc jn _);have HW1:Hid (Below W1.heap.size W1 V1):=jq (HW0.out.trans (HS1.out.mono HW0.out.size));have HDV1:Hid (Blk V1 b10 74 #[.int .i64 0,.bool false,.int .i64 0,.slice none 0 0,.slice none 0 0]):=jq (by rw[hV1,hb10];exact Blk.new _ _ _);have HEb10:Hid (W1.drew.heap.size<=b10/\b10<V1.heap.size/\b10<=W1.drew.heap.size):=jq ⟨Nat.le_of_eq hb10.symm,HDV1.out.lt,Nat.le_of_eq hb10⟩;rw[<-hV1]at hHeld⊢;rw[<-hb10];clear hV1 hb10;refine wpAnyH_ready (rs:=[12,13]) (by kernel_rfl) (by simp) ?_;refine' AllReadyH.cons (o:=?o24) ?ho24 (λK hK=>?step24) ?more24
     case ho24=>(simp only[jt,jb,ja];rfl)
     case' step24=>
      go_simp
      (go_at_call 36;refine(HSL.out _ HW1.out).mono ?_;rintro e V2 ⟨va,vc,rfl,hL,hg,hB⟩;have HLV2:=jq hL;have HG:=jq hg;have HS2:=jq hB;have HW2:=jq (HW1.out.trans (hB.mono HW1.out.size));clear hL hg hB;dsimp only[DV])
      refine hK.out _ _ ?_ (λhHeld=>?_)
      ·exact HC.out _ HW2.out
      clear hK K
      try simp only[Act.put,ji,js,ju]
      have HDV2:=jq (HDV1.out.below HS2.out HDV1.out.lt);refine wpAnyH_ready (rs:=[13]) (by kernel_rfl) (by simp) ?_;refine' AllReadyH.cons (o:=?o25) ?ho25 (λK hK=>?step25) ?more25
      case ho25=>(simp only[jt,jb,ja];rfl)
      case' step25=>
       go_simp;refine hK.out _ _ ?_ (λhHeld=>?_)
       ·exact HC.out _ (HW2.out.alloc HW2.out.size _)
       clear hK K
       try simp only[Act.put,ji,js,ju]
       obtain⟨V3,hV3⟩:=jl (V2.alloc (.cells #[.int .u64 0,.int .u32 0,.slice none 0 0] 34));obtain⟨b9,hb9⟩:=jl V2.heap.size;have HS3:Hid (Below V2.heap.size V2 V3):=jq (by rw[hV3];exact(Below.refl _ _).alloc jn _);have HW3:Hid (Below W1.heap.size W1 V3):=jq (HW2.out.trans (HS3.out.mono HW2.out.size));have HMV3:Hid (Blk V3 b9 34 #[.int .u64 0,.int .u32 0,.slice none 0 0]):=jq (by rw[hV3,hb9];exact Blk.new _ _ _);have HEb9:Hid (V2.heap.size<=b9/\b9<V3.heap.size/\b9<=V2.heap.size):=jq ⟨Nat.le_of_eq hb9.symm,HMV3.out.lt,Nat.le_of_eq hb9⟩;rw[<-hV3]at hHeld⊢;rw[<-hb9];clear hV3 hb9;have HDV3:=jq (HDV2.out.below HS3.out HDV2.out.lt);have HLV3:=jq (HLV2.out.later HS3.out);have HMf:=HMV3;have HDf:=HDV3;have HLf:=HLV3
      case more25=>exact AllReadyH.nil
     case' more24=>
      refine' AllReadyH.cons (o:=?o26) ?ho26 (λK hK=>?step26) ?more26
      case ho26=>(simp only[jt,jb,ja];rfl)
      case' step26=>
       go_simp;refine hK.out _ _ ?_ (λhHeld=>?_)
       ·exact HC.out _ (HW1.out.alloc HW1.out.size _)
       clear hK K
       try simp only[Act.put,ji,js,ju]
       obtain⟨V2,hV2⟩:=jl (V1.alloc (.cells #[.int .u64 0,.int .u32 0,.slice none 0 0] 34));obtain⟨b9,hb9⟩:=jl V1.heap.size;have HS2:Hid (Below V1.heap.size V1 V2):=jq (by rw[hV2];exact(Below.refl _ _).alloc jn _);have HW2:Hid (Below W1.heap.size W1 V2):=jq (HW1.out.trans (HS2.out.mono HW1.out.size));have HMV2:Hid (Blk V2 b9 34 #[.int .u64 0,.int .u32 0,.slice none 0 0]):=jq (by rw[hV2,hb9];exact Blk.new _ _ _);have HEb9:Hid (V1.heap.size<=b9/\b9<V2.heap.size/\b9<=V1.heap.size):=jq ⟨Nat.le_of_eq hb9.symm,HMV2.out.lt,Nat.le_of_eq hb9⟩;rw[<-hV2]at hHeld⊢;rw[<-hb9];clear hV2 hb9;have HDV2:=jq (HDV1.out.below HS2.out HDV1.out.lt);refine wpAnyH_ready (rs:=[12]) (by kernel_rfl) (by simp) ?_;refine' AllReadyH.cons (o:=?o27) ?ho27 (λK hK=>?step27) ?more27
       case ho27=>(simp only[jt,jb,ja];rfl)
       case' step27=>
        go_simp
        (go_at_call 36;refine(HSL.out _ HW2.out).mono ?_;rintro e V3 ⟨va,vc,rfl,hL,hg,hB⟩;have HLV3:=jq hL;have HG:=jq hg;have HS3:=jq hB;have HW3:=jq (HW2.out.trans (hB.mono HW2.out.size));clear hL hg hB;dsimp only[DV])
        refine hK.out _ _ ?_ (λhHeld=>?_)
        ·exact HC.out _ HW3.out
        clear hK K
        try simp only[Act.put,ji,js,ju]
        have HDV3:=jq (HDV2.out.below HS3.out HDV2.out.lt);have HMV3:=jq (HMV2.out.below HS3.out HMV2.out.lt);have HMf:=HMV3;have HDf:=HDV3;have HLf:=HLV3
       case more27=>exact AllReadyH.nil
      case more26=>exact AllReadyH.nil
    case more23=>exact AllReadyH.nil
  all_goals
   refine' tk1 15 ?_
   try simp only[Act.put,ji,js,ju]
   refine wpAnyH_ready (rs:=[16]) (by kernel_rfl) (by simp) ?_;refine AllReadyH.cons (by(simp only[jt,jb,ja];rfl)) (λK hK=>?_) AllReadyH.nil;have hz1:=HS1.out.size;have hz2:=HS2.out.size;have hz3:=HS3.out.size;have hz0:=HW0.out.size;have h1:=HEb9.out;have h2:=HEb10.out;obtain⟨V4,hV4⟩:=jl ((((V3.setCell ⟨b9,0,none⟩ (.int .u64 (sv:Int))).setCell ⟨b9,1,none⟩ (.int .u32 (sn:Int))).setCell ⟨b9,2,none⟩ (.slice sa sl sc)));obtain⟨V5,hV5⟩:=jl ((((((V4.setCell ⟨b10,0,none⟩ (.int .i64 (cnt:Int))).setCell ⟨b10,1,none⟩ (.bool false)).setCell ⟨b10,2,none⟩ (.int .i64 (-1))).setCell ⟨b10,3,none⟩ (.slice va 32 vc)).setCell ⟨b10,4,none⟩ (.slice none 0 0)));have he5:b9≠b10/\W1.heap.size<=b9/\W1.heap.size<=b10:=by omega
   obtain⟨hw4,hd4,hw5,hl5,hg5,hm5,hd5⟩:=boxes_stored HW3.out HMf.out HDf.out HLf.out (λg hg=>by have h3:=HG.out g hg;omega) he5 hV4 hV5;obtain⟨⟨r0,r1,r2⟩,s0,s1,s2⟩:=three_facts HMf.out;clear hz0 hz1 hz2 hz3 h1 h2;go_simp;refine hK.out _ _ ?_ (λhHeld=>?_)
   ·rw[<-hV4];exact HC.out _ hw4
   clear hK K r0 r1 r2 s0 s1 s2
   try simp only[Act.put,ji,js,ju]
   rw[<-hV4]at hHeld⊢;clear hV4;refine wpAnyH_ready (rs:=[17]) (by kernel_rfl) (by simp) ?_;refine AllReadyH.cons (by(simp only[jt,jb,ja];rfl)) (λK hK=>?_) AllReadyH.nil;obtain⟨⟨r0,r1,r2,r3,r4⟩,s0,s1,s2,s3,s4⟩:=five_facts hd4;have HL5:=jq hl5;have HG5:=jq hg5;have HW5:=jq hw5;have HM5:=jq hm5;have HD5:=jq hd5;have HE5:=jq he5;clear hl5 hg5 hw5 hm5 hd5 he5 hw4 hd4;go_simp;refine hK.out _ _ ?_ (λhHeld=>?_)
   ·rw[<-hV5];exact HC.out _ HW5.out
   clear hK K r0 r1 r2 r3 r4 s0 s1 s2 s3 s4
   try simp only[Act.put,ji,js,ju]
   rw[<-hV5];clear hV5 hHeld;refine wpAnyH_done (by kernel_rfl) ?_ _;refine NoPanic.normal ?_
   go_wp2_with fail
   go_meet
   exact⟨b9,b10,va,vc,rfl,rfl,rfl,HL5,HG5,HW5,HM5,HD5,HE5⟩
 case rest=>
  obtain⟨b9,b10,va,vc,rfl,rfl,rfl,HL5,HG5,HW5,HM5,HD5,HE5⟩:=hcut
  have HF:Hid (FLoop B p cnt 0 w wc ⟨S.LH,S.ah,S.hc,S.ver,S.next,S.a,S.c,S.l,S.m.bl,va,vc⟩ r5 r6 b9 b10):=jq (by
   have hlow:=HP.out.on.low;have hpos:=HP.out.on.pos;have hz1:=HB1.out.size;have hz5:=HW5.out.size;have hpl:=HP.out.blk.lt;have hs1:=HER.out.2.2;obtain⟨g5,g6,-⟩:=HER.out;obtain⟨hne,hb9,hb10⟩:=HE5.out;have hBw:Below w.heap.size w wc:=HB1.out.trans (HW5.out.mono hz1);obtain⟨e1,e2,e3,e4,e5,e6,e7,e8⟩:=HSQ.out;have hX:∀x,X4 r5 r6 b9 b10 x->w.heap.size<=x:=λx hx=>by rcases hx with rfl|rfl|rfl|rfl <;> omega
   refine⟨hBw.mono hlow,⟨HR5.out.below HW5.out HR5.out.lt,HR6.out.below HW5.out HR6.out.lt,?_,?_,by omega,λx hx=>by have:=hX x hx;omega⟩,S,.inl ⟨HP.out.later hBw,FA.start HP.out (by omega) hBw HL5.out (λx hx=>by have:=HG5.out x hx;omega),λx hx=>⟨λha=>by have:=HP.out.alt x ha;have:=hX x hx;omega,λhr=>?_⟩⟩⟩
   ·show Blk wc b9 _ #[.int .u64 (S.ver:Int),.int .u32 (S.next:Int),.slice S.a S.l.length S.c];rw[<-e1,<-e2,<-e3,<-e4,<-e5];exact HM5.out
   ·show Blk wc b10 _ #[.int .i64 (S.m.bl.length:Int),.bool false,.int .i64 (-1),.slice va 32 vc,.slice none 0 0];rw[HP.out.len];exact HD5.out
   ·have h0:=hX x hx;rcases hr with hr|hr|hr|hr
    ·have:=HP.out.alt x (.inr (.inr (.inr (.inl hr))));omega
    ·have:=HP.out.alt x (.inr (.inl hr));omega
    ·have:=HP.out.alt x (.inr (.inr (.inl hr)));omega
    ·have:=HG5.out x hr;rcases hx with rfl|rfl|rfl|rfl <;> omega)
  obtain⟨T0,hT0⟩:=jl ((⟨S.LH,S.ah,S.hc,S.ver,S.next,S.a,S.c,S.l,S.m.bl,va,vc⟩:KD));rw[<-hT0]at HF
  have HTE:Hid (sh=T0.ma/\sk=T0.LM.length/\sq=T0.mc):=jq (by
   obtain⟨-,-,-,-,-,e6,e7,e8⟩:=HSQ.out;rw[hT0];exact⟨e6,e7,e8⟩)
  have hnb:n<=60:=by have:=HLEN.out;omega
  clear hT0 HL5 HG5 HW5 HM5 HD5 HE5 HC HSL HSQ
  go_wp2_with fail
  go_loopw[8,11] (λs8 i wr=>∃(k:Nat) (T:KD) (ta:Option Addr) (tl tc:Nat),k<=n/\i=.int .i64 (k:Int)/\s8=.slice ta tl tc/\Hid (ta=T.ma/\tl=T.LM.length/\tc=T.mc)/\Hid (FLoop B p cnt k w wr T r5 r6 b9 b10)) (λ_ i _=>n-(intOf i).toNat)
  case atStart=>exact⟨0,T0,_,_,_,Nat.zero_le _,rfl,rfl,HTE,HF⟩
  case round=>
   clear HF HTE;obtain⟨k,T,ta,tl,tc,hk,rfl,rfl,HTE,HF⟩:=hrel
   by_cases hgo:k<n/\∀S2,¬FB B p cnt wr S2 T r5 r6 b9 b10
   ·obtain⟨hkn,hnf⟩:=hgo;have hkd:decide ((k:Int) <(n:Int))=true:=jd (by omega);obtain⟨S2,hor⟩:=HF.out.2.2;rcases hor with hfa|hfb
    ·
     obtain⟨hP2,hK2,hX2⟩:=hfa;have hn60:=HLEN.out.2;have hkn':k<l.length:=by rw[<-HLEN.out.1];exact hkn
     have hk59:k<=59:=by omega
     obtain⟨x,hx⟩:∃x,l[k]? =some x:=⟨l[k]'hkn',jg _⟩;have hxm:=jM hx;have hAr:=HACT.out wr HF.out.1;obtain⟨gl,ol,rfl,c0,c1,c2⟩:=hAr.cells hx;have hch:=play_changes hP2 hk59 x.kd x.nm x.b x.a x.c (hAr.bytes x hxm) (HX.out x hxm).1 (HX.out x hxm).2;obtain⟨wv,a9,cc9,l9,hfu,-⟩:=hP2.on.fu;have hon:=on_any hfu.disk;rw[hP2.on.off]at hon;have d1:=hP2.cells.2.1;obtain⟨sd2,hsd2⟩:=jl S2.d;obtain⟨sx,hsx⟩:∃s:ByteArray,nv x.nm=.string s:=⟨_,rfl⟩;obtain⟨bn,hbn⟩:=jl x.b.length;obtain⟨kd,hkdd⟩:=jl x.kd;obtain⟨xa,hxa⟩:=jl x.a;obtain⟨xc,hxc⟩:=jl x.c;rw[<-hsd2]at hon d1;rw[hsx]at c1 hch;rw[<-hbn,<-hxa,<-hxc]at c2 hch;rw[<-hkdd]at c0 hch;have HCH:=jq hch;have HON:=jq hon;have HFA:=jq (show FA B p cnt k wr S2 T r5 r6 b9 b10 from⟨hP2,hK2,hX2⟩);have HSD2:=jq hsd2;have HK59:=jq hk59;clear hnf hP2 hK2 hX2 hn60 hkn' hk59 hx hxm hAr hfu hon hsd2 hsx hbn hkdd hxa hxc hch
     by_cases h0:kd<0
     ·have d0:decide (kd<0)=true:=jd h0
      go_wp2_with fail
      refine HON.out.mono ?_;rintro e w9 ⟨rfl,hw9⟩;have hw9:=hw9.symm;subst hw9;simp only[Bool.not_false]
      go_wp2_with fail
      go_roundw
      case rel=>exact⟨k+1,T,ta,tl,tc,hkn,by simp,rfl,HTE,jq ⟨HF.out.1,HF.out.2.1,S2,.inl ⟨HFA.out.1.mono (Nat.le_succ k),HFA.out.2⟩⟩⟩
      case measure=>simp[intOf];omega
     have d0:decide (kd<0)=false:=jf h0
     by_cases h4:4<kd
     ·have d4:decide (4<kd)=true:=jd h4
      go_wp2_with fail
      refine HON.out.mono ?_;rintro e w9 ⟨rfl,hw9⟩;have hw9:=hw9.symm;subst hw9;simp only[Bool.not_false]
      go_wp2_with fail
      go_roundw
      case rel=>exact⟨k+1,T,ta,tl,tc,hkn,by simp,rfl,HTE,jq ⟨HF.out.1,HF.out.2.1,S2,.inl ⟨HFA.out.1.mono (Nat.le_succ k),HFA.out.2⟩⟩⟩
      case measure=>simp[intOf];omega
     have d4:decide (4<kd)=false:=jf h4
     by_cases h3:kd=3
     ·subst h3;clear HCH c1 c2 h0 h4;have d3: ((3:Int)==3)=true:=rfl;have hP2:=HFA.out.1;obtain⟨ss,hKy⟩:=keys_exist hP2.on.few;have hsl:=hP2.slotsOf;rw[<-HSD2.out]at hsl;have HSL:=jq hsl;have HKY:=jq hKy;clear hP2 hKy hsl
      go_wp2_with fail
      refine HON.out.mono ?_;rintro e w9 ⟨rfl,hw9⟩;have hw9:=hw9.symm;subst hw9;simp only[Bool.not_false]
      go_wp2_with fail
      refine HSL.out.mono ?_;rintro e w1 ⟨va,vc,rfl,hL1,hg1,hB1⟩;unfold DV;have hbx1:=HF.out.2.1.later hB1;obtain⟨hb2,hu2⟩:=set_five hbx1.b10 (.int .i64 (cnt:Int)) (.bool false) (.int .i64 (-1)) (.slice va 32 vc) (.slice none 0 0);have r0:=hbx1.b10.frozen 0;have r1:=hbx1.b10.frozen 1;have r2:=hbx1.b10.frozen 2;have r3:=hbx1.b10.frozen 3;have r4:=hbx1.b10.frozen 4;have s0:=hbx1.b10.cell 0;have s1:=hbx1.b10.cell 1;have s2:=hbx1.b10.cell 2;have s3:=hbx1.b10.cell 3;have s4:=hbx1.b10.cell 4;unfold KD.c10 at s0 s1 s2 s3 s4;simp only[jt,ja,jb]at s0 s1 s2 s3 s4;obtain⟨w2,hw2⟩:=jl ((((((w1.setCell ⟨b10,0,none⟩ (.int .i64 (cnt:Int))).setCell ⟨b10,1,none⟩ (.bool false)).setCell ⟨b10,2,none⟩ (.int .i64 (-1))).setCell ⟨b10,3,none⟩ (.slice va 32 vc)).setCell ⟨b10,4,none⟩ (.slice none 0 0)));rw[<-hw2]at hb2 hu2;have hX:=HFA.out.2.2;have hpos:=HF.out.2.1.pos;have hlt:=HF.out.2.1.lt;have HP2:Hid (Play False B p cnt k w2 S2):=jq ((HFA.out.1.later hB1).apart hu2 (λx hx=>⟨(hX x (.inr (.inr (.inr hx)))).1,(hpos x (.inr (.inr (.inr hx)))).2.2⟩));have HBX2:=jq (hbx1.set10 hb2 hu2);have HL2:=jq (hL1.upon hu2 (λg hg e=>by have:=hg1 g hg;have:=hlt b10 (.inr (.inr (.inr rfl)));omega));have HG2:Hid (∀g,Mem.blk va=some g->wr.heap.size<=g/\g<w2.heap.size):=jq (λg hg=>by have:=hg1 g hg;have:=hu2.size;omega);have HW2:Hid (Below B w w2/\wr.heap.size<=w2.heap.size):=jq ⟨HF.out.1.trans ((hB1.mono HFA.out.1.on.low).trans (hu2.below (by have:=HF.out.1.size;have:=HFA.out.1.on.low;have:=hB1.size;omega) (λx hx=>(hpos x (.inr (.inr (.inr hx)))).2.1))),by have:=hB1.size;have:=hu2.size;omega⟩;clear hL1 hg1 hB1 hbx1 hb2 hu2 hX hpos hlt HSL c0
      go_wp2_with fail
      rw[<-hw2];clear hw2 r0 r1 r2 r3 r4 s0 s1 s2 s3 s4 d1;obtain⟨sv2,hsv2⟩:=jl S2.ver;obtain⟨sn2,hsn2⟩:=jl S2.next;obtain⟨sa2,hsa2⟩:=jl S2.a;obtain⟨sl2,hsl2⟩:=jl S2.l.length;obtain⟨sc2,hsc2⟩:=jl S2.c;obtain⟨sh2,hsh2⟩:=jl S2.ah;obtain⟨sk2,hsk2⟩:=jl S2.LH.length;obtain⟨sq2,hsq2⟩:=jl S2.hc;obtain⟨sN2,hsN2⟩:=jl S2.an;obtain⟨sL2,hsL2⟩:=jl S2.L.length;obtain⟨sM2,hsM2⟩:=jl S2.nc
      have HCC:Hid (∀V,Play False B p cnt k V S2->V.cell? ⟨p,2,none⟩=some (.int .u64 (sv2:Int))/\V.cell? ⟨p,3,none⟩=some (.int .u32 (sn2:Int))/\V.cell? ⟨p,4,none⟩=some (.slice sa2 sl2 sc2)/\V.cell? ⟨p,5,none⟩=some (.slice sh2 sk2 sq2)):=jq (λV hV=>by
       obtain⟨-,-,q2,q3,q4,q5,-⟩:=hV.cells;rw[<-hsv2]at q2;rw[<-hsn2]at q3;rw[<-hsa2,<-hsl2,<-hsc2]at q4;rw[<-hsh2,<-hsk2,<-hsq2]at q5;exact⟨q2,q3,q4,q5⟩)
      have HCN:Hid (∀V,Play False B p cnt k V S2->V.cell? ⟨p,6,none⟩=some (.slice sN2 sL2 sM2)):=jq (λV hV=>by
       obtain⟨-,-,-,-,-,-,q6,-⟩:=hV.cells;rw[<-hsN2,<-hsL2,<-hsM2]at q6;exact q6)
      have HE2:=jq (And.intro hsv2 (And.intro hsn2 (And.intro hsa2 (And.intro hsl2 (And.intro hsc2 (And.intro hsh2 (And.intro hsk2 (And.intro hsq2 (And.intro hsN2 (And.intro hsL2 hsM2))))))))));clear hsv2 hsn2 hsa2 hsl2 hsc2 hsh2 hsk2 hsq2 hsN2 hsL2 hsM2;have hS0:=HCC.out w2.drew (HP2.out.later (Below.refl _ w2).drew);obtain⟨hb3',hu3'⟩:=set_three HBX2.out.b9 (.int .u64 (sv2:Int)) (.int .u32 (sn2:Int)) (.slice sa2 sl2 sc2);have hb3:=hb3'.drew;have hu3:=hu3'.drew;clear hb3' hu3';have r0:=HBX2.out.b9.frozen 0;have r1:=HBX2.out.b9.frozen 1;have r2:=HBX2.out.b9.frozen 2;have s0:=HBX2.out.b9.cell 0;have s1:=HBX2.out.b9.cell 1;have s2:=HBX2.out.b9.cell 2;unfold KD.c9 at s0 s1 s2;simp only[jt,ja,jb]at s0 s1 s2;have hX:=HFA.out.2.2;have hpos:=HF.out.2.1.pos;have hP3:=HP2.out.apart hu3 (λx hx=>⟨(hX x (.inr (.inr (.inl hx)))).1,(hpos x (.inr (.inr (.inl hx)))).2.2⟩);have hbx3:=HBX2.out.set9 hb3 hu3;have hl3:=HL2.out.upon hu3 (λg hg e=>by have:=HG2.out g hg;have:=HF.out.2.1.lt b9 (.inr (.inr (.inl rfl)));omega);have hz3:w2.heap.size<=_:=hu3.size;have hw3:Below B w _:=HW2.out.1.trans (hu3.below HP2.out.on.low (λx hx=>(hpos x (.inr (.inr (.inl hx)))).2.1));refine wp_region_noPanic ?_;refine wp_region_held_drew (S:=λw'=>w'.cell? ⟨p,2,none⟩=some (.int .u64 (sv2:Int))/\w'.cell? ⟨p,3,none⟩=some (.int .u32 (sn2:Int))/\w'.cell? ⟨p,4,none⟩=some (.slice sa2 sl2 sc2)/\w'.cell? ⟨p,5,none⟩=some (.slice sh2 sk2 sq2)) (by kernel_rfl) hS0 (λhHeld=>?_);clear hS0;refine' jk 0 ?_
      try simp only[Act.put,ji,js,ju]
      refine' jk 1 ?_
      try simp only[Act.put,ji,js,ju]
      refine' jk 2 ?_
      try simp only[Act.put,ji,js,ju]
      refine' jk 3 ?_
      try simp only[Act.put,ji,js,ju]
      refine' jk 4 ?_
      try simp only[Act.put,ji,js,ju]
      refine' jk 5 ?_
      try simp only[Act.put,ji,js,ju]
      refine' jk 6 ?_
      try simp only[Act.put,ji,js,ju]
      refine' jk 7 ?_
      try simp only[Act.put,ji,js,ju]
      refine' jk 8 ?_
      try simp only[Act.put,ji,js,ju]
      refine wpAnyH_ready (rs:=[9]) (by kernel_rfl) (by simp) ?_;refine' AllReadyH.cons (o:=?o37) ?ho37 (λK hK=>?step37) ?more37
      case ho37=>(simp only[jt,jb,ja];rfl)
      case step37=>
       have hs3:=HCC.out _ hP3;go_simp;refine hK.out _ _ ?_ (λhHeld=>?_)
       ·exact hs3
       clear hK K r0 r1 r2 s0 s1 s2 hs3
       try simp only[Act.put,ji,js,ju]
       obtain⟨w3,hw3e⟩:=jl ((((w2.setCell ⟨b9,0,none⟩ (.int .u64 (sv2:Int))).setCell ⟨b9,1,none⟩ (.int .u32 (sn2:Int))).setCell ⟨b9,2,none⟩ (.slice sa2 sl2 sc2)).drew);rw[<-hw3e]at hP3 hbx3 hl3 hz3 hw3⊢;have HP3:=jq hP3;have HBX3:=jq hbx3;have HL3:=jq hl3;have HG3:Hid (∀g,Mem.blk va=some g->wr.heap.size<=g/\g<w3.heap.size):=jq (λg hg=>by have:=HG2.out g hg;omega);have HW3:Hid (Below B w w3/\wr.heap.size<=w3.heap.size):=jq ⟨hw3,by have:=HW2.out.2;omega⟩;clear hP3 hbx3 hl3 hz3 hw3 hw3e hb3 hu3 hX hpos HP2 HBX2 HL2 HG2 HW2;refine wpAnyH_done (by kernel_rfl) ?_ _;refine NoPanic.normal ?_
       go_wp2_with fail
       obtain⟨po,hpo⟩:=jl (planM S2.C ss cnt S2.ver S2.next S2.fs);obtain⟨ob,hob⟩:=jl po.isSome
       have HPL:Hid (∀V,Below w3.heap.size w3 V->Calls Tryz.prog 62 #[.pointer (some ⟨p,0,none⟩)] V (PlanAns V S2 po)):=jq (λV hV=>by
        rw[hpo];exact play_plan (HP3.out.later hV) (by have:=HK59.out;omega) HKY.out)
       have HPO:=jq hpo;have HOB:=jq hob;clear hpo hob;refine(HPL.out _ (Below.refl _ w3)).mono ?_;intro e w4 hh;obtain⟨x,y,pa,pk,pc,rfl⟩:=hh.shape;rw[<-HOB.out]at hh⊢;obtain⟨wc,hwc⟩:=jl (w4.alloc (.cells #[.int .u64 x,.int .u32 y,.slice pa pk pc] 34));obtain⟨b12,hb12⟩:=jl w4.heap.size;have hB41:Below w4.heap.size w4 wc:=by rw[hwc];exact(Below.refl _ _).alloc jn _
       have HB12:Hid (Blk wc b12 34 #[.int .u64 x,.int .u32 y,.slice pa pk pc]):=jq (by rw[hwc,hb12];exact Blk.new _ _ _);have HPA:=jq (hh.later HP3.out.files (Below.refl _ w3) hB41);have HLT:Hid (b9<b12):=jq (by have:=HBX3.out.lt b9 (.inr (.inr (.inl rfl)));have:=hh.1.size;omega);have HWC:=jq hwc;have HBE12:=jq hb12;clear hh hB41 hwc hb12;have hBx:=HPA.out.1;have HP4:=jq (HP3.out.later hBx);have HBX4:=jq (HBX3.out.later hBx);have HL4:=jq (HL3.out.later hBx);have HG4:Hid (∀g,Mem.blk va=some g->wr.heap.size<=g/\g<wc.heap.size):=jq (λg hg=>by have:=HG3.out g hg;have:=hBx.size;omega);have HW4:Hid (Below B w wc/\wr.heap.size<=wc.heap.size):=jq ⟨HW3.out.1.trans (hBx.mono (by have:=HP3.out.on.low;exact this)),by have:=HW3.out.2;have:=hBx.size;omega⟩;have HAW:Hid (Away B (S2.D p) wc va):=jq (λg hg=>⟨λhd=>by have:=(HFA.out.1.dlt g hd).2;have:=HG4.out g hg;omega,by have:=HG4.out g hg;have:=HFA.out.1.on.low;omega,(HG4.out g hg).2⟩);clear hBx;have e8:wc.cell? ⟨p,8,none⟩=some (.bool S2.wt):=HP4.out.cells.2.2.2.2.2.2.2.2;obtain⟨sw,hsw⟩:=jl S2.wt;rw[<-hsw]at e8;have HSW:=jq hsw;clear hsw
       by_cases hcase:sw=true/\ob=true
       ·obtain⟨rfl,rfl⟩:=hcase;obtain⟨q,hq⟩:∃q,po=some q:=Option.isSome_iff_exists.1 HOB.out.symm;have hPA:=HPA.out;rw[hq]at hPA;obtain⟨hBx,a',c',l',he,hl',hF',hg',hx'⟩:=hPA;have hpl:=HPO.out.symm.trans hq
        have hq5:x=((S2.ver+1:Nat):Int)/\y=(q.1:Int)/\pa=a'/\pk=l'.length/\pc=c':=by
         injection he with he;injection he with he;injection he with he;injection he with he1 he2;injection he1 with he1;injection he1 with he1;injection he1 with hx1 he1;injection hx1 with _ hx1;injection he1 with hy1 he1;injection hy1 with _ hy1;injection he1 with hz1 _;injection hz1 with g1 g2 g3;exact⟨hx1,hy1,g1,g2,g3⟩
        have HT1:Hid (Kept B (S2.D p) wc ⟨S2.L,S2.an,S2.nc,S2.ver+1,q.1,a',c',l',S2.m.bl,va,vc⟩):=jq (HP3.out.keptN (by have:=HK59.out;omega) hBx HKY.out hpl hl' hF' hg' hx' HL4.out HAW.out);have HKN:Hid (∀x,X4 r5 r6 b9 b10 x->¬KD.R ⟨S2.L,S2.an,S2.nc,S2.ver+1,q.1,a',c',l',S2.m.bl,va,vc⟩ x):=jq (λx hx hr=>(known_next (N:=wr.heap.size) (λy hy=>(HG4.out y hy).1) (λy hy=>by have:=hg' y hy;have:=HW3.out.2;omega) (λz hz=>(hx' z hz).imp id (λh5 y hy=>by have:=h5 y hy;have:=HW3.out.2;omega)) x hr).elim (HFA.out.2.2 x hx).1 (λh5=>by have:=HF.out.2.1.lt x hx;omega));obtain⟨T1,hT1⟩:=jl ((⟨S2.L,S2.an,S2.nc,S2.ver+1,q.1,a',c',l',S2.m.bl,va,vc⟩:KD));rw[<-hT1]at HT1 HKN
        have HTE3:Hid (sN2=T1.ma/\sL2=T1.LM.length/\sM2=T1.mc):=jq (by
         obtain⟨-,-,-,-,-,-,-,-,q9,q10,q11⟩:=HE2.out;rw[hT1];exact⟨q9,q10,q11⟩)
        have HTQ:Hid (T1.bw=S2.m.bl/\T1.LM=S2.L/\T1.kv=S2.ver+1/\T1.kn=q.1/\T1.lN.map FR.f=q.2):=jq (by rw[hT1];exact⟨rfl,rfl,rfl,rfl,hl'⟩);obtain⟨hb5',hu5'⟩:=set_three HBX4.out.b9 (.int .u64 x) (.int .u32 y) (.slice pa pk pc);have hb5:=hb5'.drew;have hu5:=hu5'.drew;clear hb5' hu5';have hpos:=HF.out.2.1.pos;have hX:=HFA.out.2.2;have hP5:=HP4.out.apart hu5 (λz hz=>⟨(hX z (.inr (.inr (.inl hz)))).1,(hpos z (.inr (.inr (.inl hz)))).2.2⟩);have hK5:=HT1.out.apart hu5 (λz hz=>HKN.out z (.inr (.inr (.inl hz))));have hbx5:=HBX4.out.set9 hb5 hu5;have hw5:Below B w _:=HW4.out.1.trans (hu5.below HP4.out.on.low (λz hz=>(hpos z (.inr (.inr (.inl hz)))).2.1))
        have hbx6:FBox B p (((wc.setCell ⟨b9,0,none⟩ (.int .u64 x)).setCell ⟨b9,1,none⟩ (.int .u32 y)).setCell ⟨b9,2,none⟩ (.slice pa pk pc)).drew r5 r6 b9 b10 T1.c9 T1.c10:=by
         obtain⟨q1,q2,q3,q4,q5⟩:=hq5;rw[hT1];unfold KD.c9 KD.c10;dsimp only;rw[<-q1,<-q2,<-q3,<-q4,<-q5,HP4.out.len];exact hbx5
        have t0:=HBX4.out.b9.frozen 0;have t1:=HBX4.out.b9.frozen 1;have t2:=HBX4.out.b9.frozen 2;have v0:=HBX4.out.b9.cell 0;have v1:=HBX4.out.b9.cell 1;have v2:=HBX4.out.b9.cell 2;simp only[jt,ja,jb]at v0 v1 v2;have hm6:=HCN.out wc.drew (HP4.out.later (Below.refl _ wc).drew);have m0:=HB12.out.drew.cell 0;have m1:=HB12.out.drew.cell 1;have m2:=HB12.out.drew.cell 2;simp only[jt,ja,jb]at m0 m1 m2;have hS0:wc.drew.cell? ⟨p,6,none⟩=some (.slice sN2 sL2 sM2)/\wc.drew.cell? ⟨b12,0,none⟩=some (.int .u64 x)/\wc.drew.cell? ⟨b12,1,none⟩=some (.int .u32 y)/\wc.drew.cell? ⟨b12,2,none⟩=some (.slice pa pk pc):=⟨hm6,m0,m1,m2⟩;have hn129:b12≠b9:=by have:=HLT.out;omega
        have hb12:=HB12.out.upon hu5 hn129;have HQ:=jq (And.intro hq hpl);clear hBx he hl' hF' hg' hx' hpl hq5 hT1 hm6 m0 m1 m2 hb5 hu5 hpos hX hbx5 hq;rw[HWC.out]at e8
        go_wp2_with fail
        rw[<-HWC.out,<-HBE12.out];clear e8;refine wp_region_noPanic ?_;refine wp_region_held_drew (S:=λw'=>w'.cell? ⟨p,6,none⟩=some (.slice sN2 sL2 sM2)/\w'.cell? ⟨b12,0,none⟩=some (.int .u64 x)/\w'.cell? ⟨b12,1,none⟩=some (.int .u32 y)/\w'.cell? ⟨b12,2,none⟩=some (.slice pa pk pc)) (by kernel_rfl) hS0 (λhHeld=>?_);clear hS0;refine' jk 0 ?_
        try simp only[Act.put,ji,js,ju]
        refine' jk 1 ?_
        try simp only[Act.put,ji,js,ju]
        refine' jk 2 ?_
        try simp only[Act.put,ji,js,ju]
        refine' jk 3 ?_
        try simp only[Act.put,ji,js,ju]
        refine' jk 4 ?_
        try simp only[Act.put,ji,js,ju]
        refine' jk 5 ?_
        try simp only[Act.put,ji,js,ju]
        refine wpAnyH_ready (rs:=[6]) (by kernel_rfl) (by simp) ?_;refine' AllReadyH.cons (o:=?o44) ?ho44 (λK hK=>?step44) ?more44
        case ho44=>(simp only[jt,jb,ja];rfl)
        case step44=>
         have hs5:=HCN.out _ hP5;have k0:=hb12.cell 0;have k1:=hb12.cell 1;have k2:=hb12.cell 2;simp only[jt,ja,jb]at k0 k1 k2;go_simp;refine hK.out _ _ ?_ (λhHeld=>?_)
         ·exact⟨hs5,k0,k1,k2⟩
         clear hK K t0 t1 t2 v0 v1 v2 hs5 k0 k1 k2 hb12
         try simp only[Act.put,ji,js,ju]
         obtain⟨w5,hw5e⟩:=jl ((((wc.setCell ⟨b9,0,none⟩ (.int .u64 x)).setCell ⟨b9,1,none⟩ (.int .u32 y)).setCell ⟨b9,2,none⟩ (.slice pa pk pc)).drew);rw[<-hw5e]at hP5 hK5 hbx6 hw5⊢;have HCM:=jq (play_commits_fall hP5 HK59.out HKY.out);have HFA5:Hid (FA B p cnt k w5 S2 T1 r5 r6 b9 b10):=jq ⟨hP5,hK5,λz hz=>⟨(HFA.out.2.2 z hz).1,HKN.out z hz⟩⟩;have HBX5:=jq hbx6;have HW5:=jq hw5;clear hP5 hK5 hbx6 hw5 hw5e;refine wpAnyH_done (by kernel_rfl) ?_ _;refine NoPanic.normal ?_
         go_wp2_with fail
         refine HCM.out.mono ?_;intro e w6 hans;rcases hans with⟨ek,rfl,hek,hS⟩|⟨rfl,hwt,q',hq',hfl⟩
         ·obtain⟨g1,g2,S3,g3⟩:=HFA5.out.step HBX5.out hS;have HF5:Hid (FLoop B p cnt (k+1) w w6 T1 r5 r6 b9 b10):=jq ⟨HW5.out.trans g2,g1,S3,.inl g3⟩;clear hS g1 g2 g3
          go_wp2_with fail
          go_roundw
          case rel=>exact⟨k+1,T1,sN2,sL2,sM2,hkn,by simp,rfl,HTE3,HF5⟩
          case measure=>simp[intOf];omega
         ·have HF5:Hid (FLoop B p cnt (k+1) w w6 T1 r5 r6 b9 b10):=jq (by
           obtain⟨t1,t2,t3,t4,t5⟩:=HTQ.out
           obtain rfl:q'=q:=by
            have h1:=HQ.out.2;rw[hq']at h1;injection h1
           have hfs:=HFA5.out.1.fallen HK59.out HKY.out hq' hfl HFA5.out.2.1 t1 t2 t3 t4 t5;have hlow:=HFA5.out.1.on.low;refine⟨HW5.out.trans (hfl.up.below hlow (λz hz=>HFA5.out.1.on.base z hz)),HBX5.out.upon hfl.up (λz hz hd=>(HFA5.out.2.2 z hz).1 (.inl (.inl hd))),S2,.inr ⟨_,_,hfs,hfl.off,λz hz=>⟨λhd=>hd.elim (λh1=>(HFA5.out.2.2 z hz).1 (.inl (.inl h1))) (λh1=>by have:=HBX5.out.lt z hz;omega),λhe=>(HFA5.out.2.2 z hz).1 (.inr (.inr (.inr (.inl he)))),(HFA5.out.2.2 z hz).2⟩⟩⟩)
          clear hfl hq' hwt
          go_wp2_with fail
          go_roundw
          case rel=>exact⟨k+1,T1,sN2,sL2,sM2,hkn,by simp,rfl,HTE3,HF5⟩
          case measure=>simp[intOf];omega
        exact AllReadyH.nil
       ·have HNO:=jq hcase;clear hcase;have HT2:Hid (Kept B (S2.D p) wc ⟨S2.LH,S2.ah,S2.hc,S2.ver,S2.next,S2.a,S2.c,S2.l,S2.m.bl,va,vc⟩):=jq (HP4.out.kept (by have:=HK59.out;omega) HL4.out HAW.out);have HCM:=jq (play_commits_fall HP4.out HK59.out HKY.out)
        have HBX:Hid (FBox B p wc r5 r6 b9 b10 (KD.c9 ⟨S2.LH,S2.ah,S2.hc,S2.ver,S2.next,S2.a,S2.c,S2.l,S2.m.bl,va,vc⟩) (KD.c10 ⟨S2.LH,S2.ah,S2.hc,S2.ver,S2.next,S2.a,S2.c,S2.l,S2.m.bl,va,vc⟩)):=jq (by
         obtain⟨q1,q2,q3,q4,q5,-⟩:=HE2.out;unfold KD.c9 KD.c10;dsimp only;rw[<-q1,<-q2,<-q3,<-q4,<-q5,HP4.out.len];exact HBX4.out)
        have HTE2:Hid (sh2=S2.ah/\sk2=S2.LH.length/\sq2=S2.hc):=jq (by
         obtain⟨-,-,-,-,-,q6,q7,q8,-⟩:=HE2.out;exact⟨q6,q7,q8⟩)
        have HKN:Hid (∀x,X4 r5 r6 b9 b10 x->¬KD.R ⟨S2.LH,S2.ah,S2.hc,S2.ver,S2.next,S2.a,S2.c,S2.l,S2.m.bl,va,vc⟩ x):=jq (λx hx hr=>(known_have (N:=wr.heap.size) (λy hy=>(HG4.out y hy).1) x hr).elim (HFA.out.2.2 x hx).1 (λh5=>by have:=HF.out.2.1.lt x hx;omega));obtain⟨T2,hT2⟩:=jl ((⟨S2.LH,S2.ah,S2.hc,S2.ver,S2.next,S2.a,S2.c,S2.l,S2.m.bl,va,vc⟩:KD));have HTE3:Hid (sh2=T2.ma/\sk2=T2.LM.length/\sq2=T2.mc):=jq (by rw[hT2];exact HTE2.out);rw[<-hT2]at HT2 HBX HKN;clear hT2 HTE2 HB12
        have hpick: (sw=true/\ob=false)\/sw=false:=by
         rcases Bool.eq_false_or_eq_true sw with h|h
         ·rcases Bool.eq_false_or_eq_true ob with h'|h'
          ·exact absurd ⟨h,h'⟩ HNO.out
          ·exact .inl ⟨h,h'⟩
         ·exact .inr h
        rcases hpick with⟨rfl,rfl⟩|rfl
        ·skip
         rw[HWC.out]at e8
         go_wp2_with fail
         rw[<-HWC.out];refine HCM.out.mono ?_;intro e w6 hans;rcases hans with⟨ek,rfl,hek,hS⟩|⟨rfl,hwt,q,hq,-⟩
         ·obtain⟨g1,g2,S3,g3⟩:=FA.step ⟨HP4.out,HT2.out,λx hx=>⟨(HFA.out.2.2 x hx).1,HKN.out x hx⟩⟩ HBX.out hS;have HF5:Hid (FLoop B p cnt (k+1) w w6 T2 r5 r6 b9 b10):=jq ⟨HW4.out.1.trans g2,g1,S3,.inl g3⟩;clear hS g1 g2 g3 e8
          go_wp2_with fail
          go_roundw
          case rel=>exact⟨k+1,T2,sh2,sk2,sq2,hkn,by simp,rfl,HTE3,HF5⟩
          case measure=>simp[intOf];omega
         ·exfalso
          have h1:=HSW.out;have h2:=HOB.out;rw[HPO.out,hq]at h2
          first|exact HNO.out ⟨h1.trans hwt,h2⟩|exact absurd (h1.trans hwt) (by decide)|(simp at h2;done)
        ·skip
         rw[HWC.out]at e8
         go_wp2_with fail
         rw[<-HWC.out];refine HCM.out.mono ?_;intro e w6 hans;rcases hans with⟨ek,rfl,hek,hS⟩|⟨rfl,hwt,q,hq,-⟩
         ·obtain⟨g1,g2,S3,g3⟩:=FA.step ⟨HP4.out,HT2.out,λx hx=>⟨(HFA.out.2.2 x hx).1,HKN.out x hx⟩⟩ HBX.out hS;have HF5:Hid (FLoop B p cnt (k+1) w w6 T2 r5 r6 b9 b10):=jq ⟨HW4.out.1.trans g2,g1,S3,.inl g3⟩;clear hS g1 g2 g3 e8
          go_wp2_with fail
          go_roundw
          case rel=>exact⟨k+1,T2,sh2,sk2,sq2,hkn,by simp,rfl,HTE3,HF5⟩
          case measure=>simp[intOf];omega
         ·exfalso
          have h1:=HSW.out;have h2:=HOB.out;rw[HPO.out,hq]at h2
          first|exact HNO.out ⟨h1.trans hwt,h2⟩|exact absurd (h1.trans hwt) (by decide)|(simp at h2;done)
      exact AllReadyH.nil
     ·have d3: (kd==3)=false:=by simpa using h3
      have d3': (kd !=3)=true:=by simpa using h3
      go_wp2_with fail
      refine HON.out.mono ?_;rintro e w9 ⟨rfl,hw9⟩;have hw9:=hw9.symm;subst hw9;simp only[Bool.not_false]
      go_wp2_with fail
      refine HCH.out.mono ?_;rintro e w5 ⟨rfl,hS⟩;obtain⟨g1,g2,S3,g3⟩:=HFA.out.step HF.out.2.1 hS;have HF5:Hid (FLoop B p cnt (k+1) w w5 T r5 r6 b9 b10):=jq ⟨HF.out.1.trans g2,g1,S3,.inl g3⟩;clear hS g1 g2 g3 c0 c1 c2 d1
      go_wp2_with fail
      go_roundw
      case rel=>exact⟨k+1,T,ta,tl,tc,hkn,by simp,rfl,HTE,HF5⟩
      case measure=>simp[intOf];omega
    ·
     exact absurd hfb (hnf S2)
   ·
    have hcase:k<n/\(∃S2,FB B p cnt wr S2 T r5 r6 b9 b10)\/k=n:=by
     by_cases h1:k<n
     ·exact .inl ⟨h1,Classical.byContradiction (λh2=>hgo ⟨h1,λS2 h3=>h2 ⟨S2,h3⟩⟩)⟩
     ·exact .inr (by omega)
    rcases hcase with⟨hkn,S2,hfb⟩|hkn
    case' inl=>
     have hkd:decide ((k:Int) <(n:Int))=true:=jd (by omega);obtain⟨D,m,hfs,hoff,hxx⟩:=hfb;obtain⟨wv,hdk,-⟩:=hfs.disk;have hon:=on_any hdk;rw[hoff]at hon;have c1:=hfs.mem.blk.cell 1;unfold PD.cells at c1;simp only[jt,ja,jb]at c1;obtain⟨sd2,hsd2⟩:=jl S2.d;rw[<-hsd2]at c1 hon;have HON:=jq hon;have HFS:Hid (∃S D m,FState B p cnt wr S T D m/\∀x,X4 r5 r6 b9 b10 x->¬D x/\x≠p/\Mem.blk S.ah≠some x/\¬T.R x):=jq ⟨S2,D,m,hfs,λx hx=>⟨(hxx x hx).1,(HF.out.2.1.pos x hx).1,(hxx x hx).2⟩⟩;clear hfs hdk hon hoff hxx hsd2 hgo
     go_wp2_with fail
     refine HON.out.mono ?_;rintro e w9 ⟨rfl,hw9⟩;have hw9:=hw9.symm;subst hw9;simp only[Bool.not_true];clear c1 HON
    case' inr=>
     have hkd:decide ((k:Int) <(n:Int))=false:=jf (by omega);obtain⟨S2,hor⟩:=HF.out.2.2
     have HFS:Hid (∃S D m,FState B p cnt wr S T D m/\∀x,X4 r5 r6 b9 b10 x->¬D x/\x≠p/\Mem.blk S.ah≠some x/\¬T.R x):=jq (by
      rcases hor with hfa|⟨D,m,hfs,hoff,hxx⟩
      ·exact⟨S2,S2.Q,S2.m,hfa.1.fstate (by have:=HLEN.out;omega) hfa.2.1,λx hx=>⟨λhq=>(hfa.2.2 x hx).1 (.inl (.inl hq)),(HF.out.2.1.pos x hx).1,λhe=>(hfa.2.2 x hx).1 (.inr (.inr (.inr (.inl he)))),(hfa.2.2 x hx).2⟩⟩
      ·exact⟨S2,D,m,hfs,λx hx=>⟨(hxx x hx).1,(HF.out.2.1.pos x hx).1,(hxx x hx).2⟩⟩)
     clear hor hgo
    all_goals
     obtain⟨tv,htv⟩:=jl T.kv;obtain⟨tn,htn⟩:=jl T.kn;obtain⟨tna,htna⟩:=jl T.na;obtain⟨tnl,htnl⟩:=jl T.lN.length;obtain⟨tnc,htnc⟩:=jl T.nc;obtain⟨tb,htb⟩:=jl T.bw.length;obtain⟨twa,htwa⟩:=jl T.wa;obtain⟨twc,htwc⟩:=jl T.wc;have hbx:=HF.out.2.1;unfold KD.c9 KD.c10 at hbx;rw[<-htv,<-htn,<-htna,<-htnl,<-htnc,<-htb,<-htwa,<-htwc]at hbx;obtain⟨n1,n2,n3,n4,n5,n6⟩:=hbx.ne;obtain⟨V1,hV1⟩:=jl ((((wr.setCell ⟨r5,0,none⟩ (.int .u64 (tv:Int))).setCell ⟨r5,1,none⟩ (.int .u32 (tn:Int))).setCell ⟨r5,2,none⟩ (.slice tna tnl tnc)).drew);obtain⟨V2,hV2⟩:=jl ((((((V1.setCell ⟨r6,0,none⟩ (.int .i64 (tb:Int))).setCell ⟨r6,1,none⟩ (.bool false)).setCell ⟨r6,2,none⟩ (.int .i64 (-1))).setCell ⟨r6,3,none⟩ (.slice twa 32 twc)).setCell ⟨r6,4,none⟩ (.slice none 0 0)));obtain⟨h51',u51'⟩:=set_three hbx.r5 (.int .u64 (tv:Int)) (.int .u32 (tn:Int)) (.slice tna tnl tnc);have h51:=h51'.drew;have u51:=u51'.drew;rw[<-hV1]at h51 u51;clear h51' u51';have hb61:=hbx.r6.upon u51 (λe=>n1 e.symm);have hb91:=hbx.b9.upon u51 (λe=>n2 e.symm);have hb01:=hbx.b10.upon u51 (λe=>n3 e.symm);obtain⟨h62,u62⟩:=set_five hb61 (.int .i64 (tb:Int)) (.bool false) (.int .i64 (-1)) (.slice twa 32 twc) (.slice none 0 0);rw[<-hV2]at h62 u62;have h52:=h51.upon u62 n1;have hb92:=hb91.upon u62 (λe=>n4 e.symm);have hb02:=hb01.upon u62 (λe=>n5 e.symm)
     have HEND:Hid (FallsAns B p cnt w (.returned (.tuple #[.slice ta tl tc,.agg #[.int .u64 (tv:Int),.int .u32 (tn:Int),.slice tna tnl tnc],.agg #[.int .i64 (tb:Int),.bool false,.int .i64 (-1),.slice twa 32 twc,.slice none 0 0],.bool true])) V2):=jq (by
      obtain⟨S3,D3,m3,hfs,hxx⟩:=HFS.out;have hu:Upon (λx=>x=r5\/x=r6) wr V2:=(u51.mono (λx hx=>Or.inl hx)).trans (u62.mono (λx hx=>Or.inr hx)) (λx hx=>.inl hx);refine⟨S3,T,D3,m3,?_,hfs.apart hu (λx hx=>hxx x (hx.elim .inl (λh=>.inr (.inl h)))),HF.out.1.trans (hu.below (Nat.le_trans HP.out.on.low HF.out.1.size) (λx hx=>(HF.out.2.1.pos x (hx.elim .inl (λh=>.inr (.inl h)))).2.1))⟩;obtain⟨q1,q2,q3⟩:=HTE.out;rw[q1,q2,q3,htv,htn,htna,htnl,htnc,htb,htwa,htwc]
      rfl)
     have hcl:∀V:World,Blk V b9 34 #[.int .u64 (tv:Int),.int .u32 (tn:Int),.slice tna tnl tnc]->Blk V b10 74 #[.int .i64 (tb:Int),.bool false,.int .i64 (-1),.slice twa 32 twc,.slice none 0 0]->(V.cell? ⟨b9,0,none⟩=some (.int .u64 (tv:Int))/\V.cell? ⟨b9,1,none⟩=some (.int .u32 (tn:Int))/\V.cell? ⟨b9,2,none⟩=some (.slice tna tnl tnc))/\V.cell? ⟨b10,0,none⟩=some (.int .i64 (tb:Int))/\V.cell? ⟨b10,1,none⟩=some (.bool false)/\V.cell? ⟨b10,2,none⟩=some (.int .i64 (-1))/\V.cell? ⟨b10,3,none⟩=some (.slice twa 32 twc)/\V.cell? ⟨b10,4,none⟩=some (.slice none 0 0):=λV g1 g2=>⟨⟨g1.cell 0,g1.cell 1,g1.cell 2⟩,g2.cell 0,g2.cell 1,g2.cell 2,g2.cell 3,g2.cell 4⟩
     have hS0:=hcl wr.drew hbx.b9.drew hbx.b10.drew;have HS1:=jq (hcl V1 hb91 hb01);have HS2:=jq (hcl V2 hb92 hb02);have HR0:=jq hbx.r5;have HR1:=jq hb61;have HY:=jq (And.intro h52 h62);clear hbx n1 n2 n3 n4 n5 n6 h51 u51 hb61 hb91 hb01 h62 u62 h52 hb92 hb02 htv htn htna htnl htnc htb htwa htwc HFS hcl
     go_wp2_with fail
     refine wp_region_noPanic ?_;refine wp_region_held_drew (S:=λw'=>(w'.cell? ⟨b9,0,none⟩=some (.int .u64 (tv:Int))/\w'.cell? ⟨b9,1,none⟩=some (.int .u32 (tn:Int))/\w'.cell? ⟨b9,2,none⟩=some (.slice tna tnl tnc))/\w'.cell? ⟨b10,0,none⟩=some (.int .i64 (tb:Int))/\w'.cell? ⟨b10,1,none⟩=some (.bool false)/\w'.cell? ⟨b10,2,none⟩=some (.int .i64 (-1))/\w'.cell? ⟨b10,3,none⟩=some (.slice twa 32 twc)/\w'.cell? ⟨b10,4,none⟩=some (.slice none 0 0)) (by kernel_rfl) hS0 (λhHeld=>?_);clear hS0;refine' tk1 0 ?_
     try simp only[Act.put,ji,js,ju]
     refine' tk1 1 ?_
     try simp only[Act.put,ji,js,ju]
     refine' tk1 2 ?_
     try simp only[Act.put,ji,js,ju]
     refine' tk1 3 ?_
     try simp only[Act.put,ji,js,ju]
     refine wpAnyH_ready (rs:=[4]) (by kernel_rfl) (by simp) ?_;refine AllReadyH.cons (by(simp only[jt,jb,ja];rfl)) (λK hK=>?_) AllReadyH.nil;have r0:=HR0.out.frozen 0;have r1:=HR0.out.frozen 1;have r2:=HR0.out.frozen 2;have s0:=HR0.out.cell 0;have s1:=HR0.out.cell 1;have s2:=HR0.out.cell 2;simp only[jt,ja,jb]at s0 s1 s2;go_simp;refine hK.out _ _ ?_ (λhHeld=>?_)
     ·rw[<-hV1];exact HS1.out
     clear hK K r0 r1 r2 s0 s1 s2
     try simp only[Act.put,ji,js,ju]
     rw[<-hV1]at hHeld⊢;clear hV1;refine wpAnyH_ready (rs:=[5]) (by kernel_rfl) (by simp) ?_;refine AllReadyH.cons (by(simp only[jt,jb,ja];rfl)) (λK hK=>?_) AllReadyH.nil;have r0:=HR1.out.frozen 0;have r1:=HR1.out.frozen 1;have r2:=HR1.out.frozen 2;have r3:=HR1.out.frozen 3;have r4:=HR1.out.frozen 4;have s0:=HR1.out.cell 0;have s1:=HR1.out.cell 1;have s2:=HR1.out.cell 2;have s3:=HR1.out.cell 3;have s4:=HR1.out.cell 4;simp only[jt,ja,jb]at s0 s1 s2 s3 s4;go_simp;refine hK.out _ _ ?_ (λhHeld=>?_)
     ·rw[<-hV2];exact HS2.out
     clear hK K r0 r1 r2 r3 r4 s0 s1 s2 s3 s4
     try simp only[Act.put,ji,js,ju]
     rw[<-hV2]at hHeld⊢;clear hV2;refine' tk1 6 ?_
     try simp only[Act.put,ji,js,ju]
     refine wpAnyH_done (by kernel_rfl) ?_ _;refine NoPanic.normal ?_;clear hHeld HS1 HS2;have y0:=HY.out.1.cell 0;have y1:=HY.out.1.cell 1;have y2:=HY.out.1.cell 2;have z0:=HY.out.2.cell 0;have z1:=HY.out.2.cell 1;have z2:=HY.out.2.cell 2;have z3:=HY.out.2.cell 3;have z4:=HY.out.2.cell 4;simp only[jt,ja,jb]at y0 y1 y2 z0 z1 z2 z3 z4
     go_wp2_with fail
     refine bodyPost_ret (v:=.tuple #[.slice ta tl tc,.agg #[.int .u64 (tv:Int),.int .u32 (tn:Int),.slice tna tnl tnc],.agg #[.int .i64 (tb:Int),.bool false,.int .i64 (-1),.slice twa 32 twc,.slice none 0 0],.bool true]) (by simp[results,Tryz.f32,go_sem,y0,y1,y2,z0,z1,z2,z3,z4]) rfl ?_;exact HEND.out
end Full
namespace Full
open Go.RowKit Go.Deep Mem Crc Go.Maps Dk Mani RefF
open Store (Chg none' nv Files)
attribute [local go_sem] Oper.semAt_some
theorem stands_yes {B p s d g cm:Nat} {w:World} {Q:Nat->Prop} {m:DM} {ver next:Nat} {fs:List Fil} {H:Files} {S:PD} (hon:On B s d g cm w Q m ver next fs none' H 0) (hp:Blk w p 38 S.cells)
  (LX:List FF) (hLX:IsRow LX H) (hxl:LX.length<=1000) (hxn:∀x∈LX,x.1.length<=100) (hh:Lies w S.ah (flatP S.LH)) (hhl:S.LH.length<=1000) (ma:Option Addr) (mc:Nat) (LM:List FF) (hm:Lies w ma (flatP LM)) (hml:LM.length<=1000) (nv_ nx:Nat) (na:Option Addr) (nk nc:Nat)
  (hor: (LX=S.LH/\ver=S.ver)\/(LX=LM/\ver=nv_)):
  Calls Tryz.prog 35 #[.pointer (some ⟨p,0,none⟩),.pointer (some ⟨s,0,none⟩),.slice ma LM.length mc,.agg #[.int .u64 (nv_:Int),.int .u32 (nx:Int),.slice na nk nc]] w λe w'=>e=.returned (.bool true)/\Below w.heap.size w w':=by
 obtain⟨W1,hW1⟩:=jl (w.alloc (.cells #[.int .u64 (nv_:Int),.int .u32 (nx:Int),.slice na nk nc] 34));obtain⟨nb,hnb⟩:=jl w.heap.size;have hB1:Below w.heap.size w W1:=by rw[hW1];exact(Below.refl _ w).alloc jn _
 have hbk:Blk W1 nb 34 #[.int .u64 (nv_:Int),.int .u32 (nx:Int),.slice na nk nc]:=by rw[hW1,hnb];exact Blk.new w _ _
 have hal:=all_on (hon.later hB1) (by decide) LX (by rw[nowF_none];exact hLX) hxl hxn;obtain⟨lx,hlx⟩:=jl LX.length;obtain⟨lm,hlm⟩:=jl LM.length;rw[<-hlx]at hal;rw[<-hlm];have HAL:=jq hal;have HB1:=jq hB1;have HBK:=jq hbk;have HON:=jq hon;have HP:=jq hp;have HH:=jq (And.intro hh hhl);have HM:=jq (And.intro hm hml);have HXL:=jq hxl;have HLX:=jq hlx;have HLM:=jq hlm;have HOR:=jq hor;clear hon hp hLX hxl hxn hh hhl hm hml hal hB1 hbk hor hlx hlm
 go_enter Tryz.func35,Tryz.ntmps35
 go_wp2_with fail
 rw[<-hW1,<-hnb];clear hW1 hnb;refine HAL.out.mono ?_;rintro e w2 ⟨xa,xc,rfl,hLx,hB2⟩;have hB02:Below w.heap.size w w2:=HB1.out.trans (hB2.mono HB1.out.size);have hp2:=HP.out.below hB02 HP.out.lt;have c2:=hp2.cell 2;have c5:=hp2.cell 5;unfold PD.cells at c2 c5;simp only[jt,ja,jb]at c2 c5;have hbk2:=HBK.out.below hB2 HBK.out.lt;have n0:=hbk2.cell 0
 simp at n0
 obtain⟨lh,hlh⟩:=jl S.LH.length;obtain⟨ha,hha⟩:=jl S.ah;obtain⟨hc,hhc⟩:=jl S.hc;obtain⟨sv,hsv⟩:=jl S.ver;obtain⟨r1,hr1⟩:=jl (decide (LX=S.LH));obtain⟨r2,hr2⟩:=jl (decide (LX=LM))
 have s1:∀n,Calls Tryz.prog 21 #[.slice xa lx xc,.slice ha lh hc] (w2.drewN n) λe w'=>e=.returned (.bool r1)/\∃m,w'=(w2.drewN n).drewN m:=λn=>by
  have:=same_q xa S.ah xc S.hc LX S.LH (w2.drewN n) (hLx.later (drewN_below (Below.refl _ _) n)) ((HH.out.1.later hB02).later (drewN_below (Below.refl _ _) n)) (by have:=HXL.out;omega) (by have:=HH.out.2;omega);rw[<-HLX.out,<-hlh,<-hha,<-hhc,<-hr1]at this;exact this
 have s2:∀n,Calls Tryz.prog 21 #[.slice xa lx xc,.slice ma lm mc] (w2.drewN n) λe w'=>e=.returned (.bool r2)/\∃m,w'=(w2.drewN n).drewN m:=λn=>by
  have:=same_q xa ma xc mc LX LM (w2.drewN n) (hLx.later (drewN_below (Below.refl _ _) n)) ((HM.out.1.later hB02).later (drewN_below (Below.refl _ _) n)) (by have:=HXL.out;omega) (by have:=HM.out.2;omega);rw[<-HLX.out,<-HLM.out,<-hr2]at this;exact this
 have s3:∀n,Calls Tryz.prog 16 #[.pointer (some ⟨s,0,none⟩)] (w2.drewN n) λe w'=>e=.returned (.int .u64 (ver:Int))/\w'=w2.drewN n:=λn=>on_version ((HON.out.later hB02).later (drewN_below (Below.refl _ _) n))
 have hor2: (r1=true/\ver=sv)\/(r2=true/\ver=nv_):=by
  rw[hr1,hr2,hsv];exact HOR.out.imp (λh=>⟨jd h.1,h.2⟩) (λh=>⟨jd h.1,h.2⟩)
 rw[<-hsv]at c2;rw[<-hha,<-hlh,<-hhc]at c5;have HS1:=jq s1;have HS2:=jq s2;have HS3:=jq s3;have HB02:=jq hB02;have HOR2:=jq hor2;clear hLx hB2 hB02 hp2 hbk2 hlh hha hhc hsv hr1 hr2 s1 s2 s3 hor2 HOR HAL;obtain⟨v1,hv1⟩:∃b,((ver:Int)==(sv:Int))=b:=⟨_,rfl⟩;obtain⟨v2,hv2⟩:∃b,((ver:Int)==(nv_:Int))=b:=⟨_,rfl⟩
 have hall: (r1=true/\v1=true)\/(r2=true/\v2=true):=by
  rcases HOR2.out with⟨h1,h2⟩|⟨h1,h2⟩
  ·exact .inl ⟨h1,by rw[<-hv1,h2];simp⟩
  ·exact .inr ⟨h1,by rw[<-hv2,h2];simp⟩
 have HALL:=jq hall;clear hall HOR2
 go_wp2_with fail
 clear HB1 HBK HON HP HH HM HXL HLX HLM;cases r1 <;> cases r2 <;> cases v1 <;> cases v2
 all_goals first
  |(exfalso;have:=HALL.out;simp at this;done)
  |skip
 all_goals
  go_quiet (first|(go_at_call 16;refine Calls.quiet_of_same (HS3.out _))|(go_at_call 21;first|(with_reducible refine Calls.quiet_of (HS1.out _))|(with_reducible refine Calls.quiet_of (HS2.out _))))
  go_wp2_with fail
  go_ret
  exact⟨rfl,below_drewN HB02.out _⟩
end Full
namespace Full
open Go.RowKit Go.Deep Mem Crc Go.Maps Dk Mani RefF Go.Proofs.YtbfochdoeibofaaGreatDoor.Read Man
open Store (Chg none' nv Files)
open RefD (flatW madeL Mixed2 DV)
open Ext (Tab)
theorem FState.back {B p cnt:Nat} {w:World} {S:PD} {T:KD} {D:Nat->Prop} {m:DM} (h:FState B p cnt w S T D m) (keep torn:Nat) (hke:keep<18446744073709551616) (hto:torn<18446744073709551616):
  Calls Tryz.prog 33 #[.pointer (some ⟨S.d,0,none⟩),.int .u64 (keep:Int),.int .u64 (torn:Int)] w λe w'=>e=.returned (.tuple #[])/\FMem B p w' S T D/\Dk w' S.d S.g (.slice none 0 0) (backD m keep torn)/\(D S.d/\D S.g)/\(S.d<w.heap.size/\S.g<w.heap.size)/\Upon (λk=>k=S.d\/k=S.g) w w':=by
 obtain⟨wv,hD,hH⟩:=h.disk;have hl1:=hD.lt S.d (.inl rfl);have hl2:=hD.lt S.g (.inr (.inl rfl));refine(back_on keep torn hke hto hD h.wt).mono ?_;rintro e w' ⟨rfl,wv',hD',hu,ho⟩;have hd:=hH S.d (.inl rfl);have hg:=hH S.g (.inr (.inl rfl));have hu':Upon D w w':=hu.mono (λk hk=>by rcases hk with rfl|rfl;exact hd;exact hg);have hn:=hD'.nil rfl;subst hn;exact⟨rfl,h.mem.step hu',hD',⟨hd,hg⟩,⟨hl1,hl2⟩,hu⟩
theorem has_nil {d g:Nat} {X:Nat->Prop} (hd:X d) (hg:X g):∀k,Has d g (.slice none 0 0) k->X k:=λk hk=>by
 rcases hk with rfl|rfl|hk
 ·exact hd
 ·exact hg
 ·cases hk
attribute [local go_sem] Oper.semAt_some
end Full
namespace Full
open Go.RowKit Go.Deep Mem Crc Go.Maps Dk Mani RefF Go.Proofs.YtbfochdoeibofaaGreatDoor.Read Man
open Store (Chg none' nv Files)
theorem again_open {m:DM} {ver next:Nat} {fs:List Fil} (h:Stand m.bl ver next fs) (hok:Okm m.bl.length ver next fs) (hw:m.wt= []) (h33:33<=m.bl.length) (hlen:∀x∈m.bl,x.length=128) (hcl:Clean m.bl):
  ((openL m).1=0\/(openL m).1=6)/\(openL m).2.1.wt.length<=1000000/\∀keep torn:Nat,(backD (openL m).2.1 keep torn).bl.length=m.bl.length/\(Unmixed (backD (openL m).2.1 keep torn).bl m.bl (manL ver next fs)->Stand (backD (openL m).2.1 keep torn).bl ver next fs/\∀i,32<=i->(backD (openL m).2.1 keep torn).bl[i]? =m.bl[i]?):=by
 have same:∀p:MT,openL m=(0,m,p)->((openL m).1=0\/(openL m).1=6)/\(openL m).2.1.wt.length<=1000000/\∀keep torn:Nat,(backD (openL m).2.1 keep torn).bl.length=m.bl.length/\(Unmixed (backD (openL m).2.1 keep torn).bl m.bl (manL ver next fs)->Stand (backD (openL m).2.1 keep torn).bl ver next fs/\∀i,32<=i->(backD (openL m).2.1 keep torn).bl[i]? =m.bl[i]?):=λp hp=>by
  rw[hp];refine⟨.inl rfl,by show m.wt.length<=_;rw[hw];exact Nat.zero_le _,λkeep torn=>?_⟩;show(backD m keep torn).bl.length=_/\(Unmixed (backD m keep torn).bl _ _->Stand (backD m keep torn).bl _ _ _/\∀i,32<=i->(backD m keep torn).bl[i]? =_);rw[Slots.back hw];exact⟨rfl,λ_=>⟨h,λ_ _=>rfl⟩⟩
 rcases h with⟨h1,rfl,rfl,rfl⟩|h1
 ·refine same (0,0,[]) ?_;unfold openL;rw[h1]
  rfl
 ·have hin: (fs.any (λf=>f.blocks.any (λi=>decide (m.bl.length<=i))))=false:=by
   refine Bool.eq_false_iff.2 (λhh=>?_);obtain⟨f,hff,h2⟩:=List.any_eq_true.1 hh;obtain⟨i,hi,h3⟩:=List.any_eq_true.1 h2;have h4:=of_decide_eq_true h3;have h5:=hok.in_ f hff i hi
   omega
  by_cases hv:ver=0
  ·refine same (ver,next,fs) ?_;unfold openL;rw[h1];dsimp only;rw[hin,if_neg Bool.false_ne_true,if_pos hv]
  ·have e:openL m=((m.mani ver (manL ver next fs)).2,(m.mani ver (manL ver next fs)).1,(ver,next,fs)):=by
    unfold openL;rw[h1];dsimp only;rw[hin,if_neg Bool.false_ne_true,if_neg hv]
   rw[e];dsimp only;have hwt:=mani_wt m ver (manL ver next fs);rw[hw,List.length_nil]at hwt
   by_cases hz: (m.mani ver (manL ver next fs)).2=0
   ·obtain⟨b1,b2,b3⟩:=mani_bl hw hz;refine⟨.inl hz,by omega,λkeep torn=>?_⟩;rw[Slots.back b3,b1];refine⟨by rw[puts_length,puts_length],λ_=>⟨Slots.stand (n:=m.bl.length) (.inr (λj hj=>slots_at ver (manL_length hok.may) h33 hj)) hok,λi hi=>?_⟩⟩;have h2:=Nat.mod_lt ver (show 0<2 by decide);rw[puts_other _ _ _ (λhm=>by have:=slotW_keys hm;omega),puts_other _ _ _ (λhm=>by have:=slotW_keys hm;omega)]
   ·obtain⟨h6,hf⟩:=mani_fell hw hz;refine⟨.inr h6,by omega,λkeep torn=>⟨?_,λhun=>?_⟩⟩
    ·show(backs keep torn 0 (m.mani ver (manL ver next fs)).1.bl (m.mani ver (manL ver next fs)).1.wt).length=_;rw[backs_length];rcases hf with hf|hf
     ·rw[hf.bl]
     ·rw[hf.bl,puts_length]
    ·obtain⟨g1,g2⟩:=mani_again h33 hlen h1 hok hcl hw hz keep torn (λj hj=>by
      cases hg:getS (slotB (backD (m.mani ver (manL ver next fs)).1 keep torn).bl j)with
      |none=>exact .inl rfl
      |some v=>exact .inr (hun j hj (by rw[hg];rfl)))
     exact⟨.inr g1,g2⟩
end Full
namespace Full
open Go.RowKit Go.Deep Mem Crc Go.Maps Dk Mani RefF Go.Proofs.YtbfochdoeibofaaGreatDoor.Read Man
open Store (Chg none' nv Files)
open RefD (flatW madeL Mixed2 DV)
open Ext (Tab)
attribute [local go_sem] Oper.semAt_some
theorem again_law (cnt:Int) (a:Option Addr) (c:Nat) (l:List AR) (F:Int) (hF0: -9223372036854775808<=F) (hF1:F<=9223372036854775807) (ke tr:Nat) (hke:ke<18446744073709551616) (hto:tr<18446744073709551616) (F2:Int) (hG0: -9223372036854775808<=F2) (hG1:F2<=9223372036854775807) (st:Nat) (hst0:st<18446744073709551616) (w:World) (h:ActsIn w a l) (hT:Tab w):
  Calls Tryz.prog 8 #[.int .i64 cnt,.slice a l.length c,.int .i64 F,.int .u64 (ke:Int),.int .u64 (tr:Int),.int .i64 F2,.int .u64 (st:Int)] w λe w'=>e=.returned (.bool true)/\Below w.heap.size w w':=by
 have HG:=jq (great_any cnt a c l w h);have HA:=jq (awake_any w hT);have H:=jq h;have HT:=jq hT;have HKT:=jq (And.intro (And.intro hF0 hF1) (And.intro hke hto));have HGT:=jq (And.intro (And.intro hG0 hG1) hst0);obtain⟨n,hn⟩:=jl l.length;rw[<-hn]at HG⊢;have HN:=jq hn;clear h hT hn hF0 hF1 hke hto hG0 hG1 hst0
 go_enter Tryz.func8,Tryz.ntmps8
 go_wp2_with fail
 refine HG.out.mono ?_;rintro e w1 ⟨rfl,hcase⟩;rcases hcase with rfl|⟨rfl,hsm⟩
 ·go_wp2_with fail
  refine HA.out.mono ?_;rintro e w2 ⟨rfl,hB⟩;have HB:=jq hB;clear hB
  go_wp2_with fail
  go_ret
  exact⟨rfl,HB.out⟩
 ·obtain⟨s1,s2,s3,s4⟩:=hsm;obtain⟨N,rfl⟩:∃N:Nat,cnt=(N:Int):=⟨cnt.toNat,by omega⟩;have HS4:=jq s4;have HS3:=jq s3;have HNN:Hid (33<=N):=jq (by omega);rw[<-HN.out]at s3;have HBE:Hid (Calls Tryz.prog 10 #[.int .i64 (N:Int)] w1 λe w'=>∃p s d g cm Q,e=.returned (.tuple #[.pointer (some ⟨p,0,none⟩),.bool true])/\Blk w' p 38 #[.pointer (some ⟨s,0,none⟩),.pointer (some ⟨d,0,none⟩),.int .u64 0,.int .u32 0,.slice none 0 0,.slice none 0 0,.slice none 0 0,.slice none 0 0,.bool false]/\On w1.heap.size s d g cm w' Q (D0 N) 0 0 [] none' (λ_=>none) 0/\¬Q p/\w1.heap.size<=p/\Below w1.heap.size w1 w'):=jq (begin_on N (by omega) (by omega) w1 HT.out);clear s4 HG HA s1 s2 s3
  go_wp2_with fail
  refine HBE.out.mono ?_;rintro e w2 ⟨p,s,d,g,cm,Q,rfl,hp,hon,hqp,hpl,hB2⟩;have hcd:=hp.cell 1;simp only[jt,ja,jb]at hcd;have hfz:=on_fuse hon F HKT.out.1.1 HKT.out.1.2;have HFZ:=jq hfz;have HPL:=jq (play_zero (Z:=True) (N:=N) HNN.out hp hon hqp hpl);have HB2:=jq hB2;clear hp hon hqp hpl hB2 HBE hfz
  go_wp2_with fail
  refine HFZ.out.mono ?_;rintro e w3 ⟨rfl,Q3,hon3,hq3,hu3⟩;have hP3:=HPL.out.fused hu3 hon3 hq3;have hB3:Below w1.heap.size w1 w3:=HB2.out.trans (hu3.below HB2.out.size (λk hk=>HPL.out.on.base k hk));have hfl:=falls_any hP3 a c l (λV hV=>H.out.later (hB3.trans hV)) HS3.out HS4.out;rw[<-HN.out]at hfl;have HFL:=jq hfl;have HB3:=jq hB3;clear hP3 hB3 hfl hon3 hq3 hu3 HFZ hcd
  go_wp2_with fail
  refine HFL.out.mono ?_;rintro e w4 ⟨S,T,D,m,rfl,hfs,hB4⟩;have hz:Below w1.heap.size w1 w4:=HB3.out.trans hB4;have c1:=hfs.mem.blk.cell 1;unfold PD.cells at c1;simp only[jt,ja,jb]at c1;obtain⟨sd,hsd⟩:=jl S.d;obtain⟨tma,htma⟩:=jl T.ma;obtain⟨tml,html⟩:=jl T.LM.length;obtain⟨tmc,htmc⟩:=jl T.mc;obtain⟨tv,htv⟩:=jl T.kv;obtain⟨tn,htn⟩:=jl T.kn;obtain⟨tna,htna⟩:=jl T.na;obtain⟨tnl,htnl⟩:=jl T.lN.length;obtain⟨tnc,htnc⟩:=jl T.nc;obtain⟨tb,htb⟩:=jl T.bw.length;obtain⟨twa,htwa⟩:=jl T.wa;obtain⟨twc,htwc⟩:=jl T.wc;rw[<-hsd]at c1;unfold DV;rw[<-htma,<-html,<-htmc,<-htv,<-htn,<-htna,<-htnl,<-htnc,<-htb,<-htwa,<-htwc];have HTE:=jq (And.intro htma (And.intro html (And.intro htmc (And.intro htv (And.intro htn (And.intro htna (And.intro htnl (And.intro htnc (And.intro htb (And.intro htwa (And.intro htwc hsd)))))))))));have HFS:=jq hfs;have HB4:=jq hz;clear htma html htmc htv htn htna htnl htnc htb htwa htwc hsd hfs hz hB4 HFL HPL HB2 HB3;obtain⟨W5,hW5⟩:=jl ((w4.alloc (.cells #[.int .u64 (tv:Int),.int .u32 (tn:Int),.slice tna tnl tnc] 34)).alloc (.cells #[.int .i64 (tb:Int),.bool false,.int .i64 (-1),.slice twa 32 twc,.slice none 0 0] 74));obtain⟨b14,hb14⟩:=jl w4.heap.size;obtain⟨b15,hb15⟩:=jl (w4.heap.size+1);have hB45:Below w4.heap.size w4 W5:=by rw[hW5];exact((Below.refl _ w4).alloc jn _).alloc (by simp) _
  have hk14:Blk W5 b14 34 #[.int .u64 (tv:Int),.int .u32 (tn:Int),.slice tna tnl tnc]:=by
   rw[hW5,hb14];exact(Blk.new w4 _ _).below ((Below.refl _ _).alloc jn _) (by simp)
  have hk15:Blk W5 b15 74 #[.int .i64 (tb:Int),.bool false,.int .i64 (-1),.slice twa 32 twc,.slice none 0 0]:=by
   rw[hW5,hb15];have h:=Blk.new (w4.alloc (.cells #[.int .u64 (tv:Int),.int .u32 (tn:Int),.slice tna tnl tnc] 34)) 74 #[.int .i64 (tb:Int),.bool false,.int .i64 (-1),.slice twa 32 twc,.slice none 0 0]
   simpa using h
  have hf5:=HFS.out.apart (X:=λ_=>False) (Upon.of_below hB45) (λ_ hh=>hh.elim)
  have hlt4:S.d<w4.heap.size/\S.g<w4.heap.size:=by
   obtain⟨wv,hD,_⟩:=HFS.out.disk;exact⟨hD.lt S.d (.inl rfl),hD.lt S.g (.inr (.inl rfl))⟩
  have hbk:=hf5.back ke tr HKT.out.2.1 HKT.out.2.2;obtain⟨e1,e2,e3,e4,e5,e6,e7,e8,e9,e10,e11,e12⟩:=HTE.out;rw[<-e12]at hbk;have c1:=hf5.mem.blk.cell 1;unfold PD.cells at c1;simp only[jt,ja,jb]at c1;rw[<-e12]at c1;rw[hW5]at c1;have HBK:=jq hbk;have HW5:=jq hW5;have HE14:=jq (And.intro hb14 hb15);have HK14:=jq hk14;have HK15:=jq hk15;have HB5:Hid (Below w1.heap.size w1 W5):=jq (HB4.out.trans (hB45.mono HB4.out.size));have HLT4:=jq hlt4;clear hW5 hb14 hb15 hB45 hk14 hk15 hf5 hlt4 hbk e1 e2 e3 e4 e5 e6 e7 e8 e9 e10 e11 e12
  go_wp2_with fail
  rw[<-HW5.out,<-HE14.out.2,<-HE14.out.1];clear c1;refine HBK.out.mono ?_;rintro e w6 ⟨rfl,hm6,hd6,hD6,-,hu6⟩;have hn14:¬(b14=sd\/b14=S.g):=by have:=HLT4.out;have:=HE14.out;have:=HTE.out.2.2.2.2.2.2.2.2.2.2.2;omega
  have hn15:¬(b15=sd\/b15=S.g):=by have:=HLT4.out;have:=HE14.out;have:=HTE.out.2.2.2.2.2.2.2.2.2.2.2;omega
  have hB6:Below w1.heap.size w1 w6:=HB5.out.trans (hu6.below HB5.out.size (λk hk=>by rcases hk with rfl|rfl;exact hm6.base _ hD6.1;exact hm6.base _ hD6.2));have HM6:=jq hm6;have HD6:=jq hd6;have HDD:=jq hD6;have HK14':=jq (HK14.out.upon hu6 hn14);have HK15':=jq (HK15.out.upon hu6 hn15);have HB6:=jq hB6;have HNN14:=jq (And.intro hn14 hn15);have HLAW:=jq (HFS.out.law ke tr)
  have hcl:∀V,Below w6.heap.size w6 V->V.cell? ⟨p,1,none⟩=some (.pointer (some ⟨sd,0,none⟩))/\(V.cell? ⟨b14,0,none⟩=some (.int .u64 (tv:Int))/\V.cell? ⟨b14,1,none⟩=some (.int .u32 (tn:Int))/\V.cell? ⟨b14,2,none⟩=some (.slice tna tnl tnc))/\V.cell? ⟨b15,0,none⟩=some (.int .i64 (tb:Int))/\V.cell? ⟨b15,1,none⟩=some (.bool false)/\V.cell? ⟨b15,2,none⟩=some (.int .i64 (-1))/\V.cell? ⟨b15,3,none⟩=some (.slice twa 32 twc)/\V.cell? ⟨b15,4,none⟩=some (.slice none 0 0):=λV hV=>by
   have g1:=HK14'.out.below hV HK14'.out.lt;have g2:=HK15'.out.below hV HK15'.out.lt;have g0:=(HM6.out.later hV).blk.cell 1;unfold PD.cells at g0;simp only[jt,ja,jb]at g0;rw[<-HTE.out.2.2.2.2.2.2.2.2.2.2.2]at g0;exact⟨g0,⟨g1.cell 0,g1.cell 1,g1.cell 2⟩,g2.cell 0,g2.cell 1,g2.cell 2,g2.cell 3,g2.cell 4⟩
  have hmx:∀V,Below w6.heap.size w6 V->Calls Tryz.prog 34 #[.pointer (some ⟨sd,0,none⟩),.agg #[.int .i64 (tb:Int),.bool false,.int .i64 (-1),.slice twa 32 twc,.slice none 0 0],.agg #[.int .u64 (tv:Int),.int .u32 (tn:Int),.slice tna tnl tnc]] V (Mixed2 (backD m ke tr).bl T.bw (manL T.kv T.kn (T.lN.map FR.f)) V):=λV hV=>by
   have hh:=(HM6.out.later hV).kept.mixed (HD6.out.later hV) rfl (by have:=HLAW.out.1;omega);obtain⟨e1,e2,e3,e4,e5,e6,e7,e8,e9,e10,e11,e12⟩:=HTE.out;unfold DV at hh;rw[e4,e5,e6,e7,e8,e9,e10,e11];exact hh
  have HCL:=jq hcl;have HMX:=jq hmx;have hS0:=hcl w6.drew (Below.refl _ w6).drew;clear hm6 hd6 hD6 hu6 hn14 hn15 hB6 hcl hmx HBK HFS HK14 HK15 HB5 HW5
  go_wp2_with fail
  go_region_held3 (λw'=>w'.cell? ⟨p,1,none⟩=some (.pointer (some ⟨sd,0,none⟩))/\(w'.cell? ⟨b14,0,none⟩=some (.int .u64 (tv:Int))/\w'.cell? ⟨b14,1,none⟩=some (.int .u32 (tn:Int))/\w'.cell? ⟨b14,2,none⟩=some (.slice tna tnl tnc))/\w'.cell? ⟨b15,0,none⟩=some (.int .i64 (tb:Int))/\w'.cell? ⟨b15,1,none⟩=some (.bool false)/\w'.cell? ⟨b15,2,none⟩=some (.int .i64 (-1))/\w'.cell? ⟨b15,3,none⟩=some (.slice twa 32 twc)/\w'.cell? ⟨b15,4,none⟩=some (.slice none 0 0)) (first|exact hS0|exact hS7) (first|(go_at_call 34;refine(HMX.out _ (Below.refl _ w6).drew).mono ?_;rintro e w7 ⟨r,rfl,hB7,hun⟩;have hb7:Below w6.heap.size w6 w7:=(Below.refl _ w6).drew.trans hB7;have hS7:=HCL.out w7 hb7;have HB7:=jq hb7;have HUN:=jq hun;clear hB7 hb7 hun;dsimp only))
  clear hS0 HMX;have HB17:Hid (Below w1.heap.size w1 w7):=jq (HB6.out.trans (HB7.out.mono HB6.out.size))
  cases r with
  |true=>
   have HAW:=jq (awake_any w7 (HT.out.below HB17.out HT.out.lt));clear hS7
   go_wp2_with fail
   refine HAW.out.mono ?_;rintro e w8 ⟨rfl,hB8⟩;have HEND:=jq (HB17.out.trans (hB8.mono HB17.out.size));clear hB8
   go_wp2_with fail
   go_ret
   exact⟨rfl,HEND.out⟩
  |false=>
   obtain⟨⟨hlen,h33⟩,hlaw⟩:=HLAW.out;obtain⟨hclean,ver,next,fs,H',LX,hst,hok,hond,hrow,hl1,hn1,hor⟩:=hlaw (HUN.out rfl);obtain⟨mb,hmb⟩:=jl (backD m ke tr);have hd7:=HD6.out.later HB7.out;rw[<-hmb]at hlen hclean hst hond hd7;have hoff:mb.off=false:=by rw[hmb];rfl
   have hwt:mb.wt= []:=by rw[hmb];rfl
   have hsm:=hd7.small;have hbl:=hd7.len;have hao:=again_open (m:={mb with fuse:=F2}) hst (by show Okm mb.bl.length _ _ _;rw[hlen];exact hok) hwt (by show 33<=mb.bl.length;omega) hbl hclean;have HLT6:Hid (sd<w6.heap.size/\S.g<w6.heap.size):=jq ⟨HD6.out.lt sd (.inl rfl),HD6.out.lt S.g (.inr (.inl rfl))⟩;have hsl:=RefD.slots_any hd7 hoff (by omega);rw[hlen]at hsl;obtain⟨c1,-⟩:=hS7;have HSL:=jq hsl;have HAO:=jq hao;have HST:=jq hst;have HOK:=jq hok;have HON:=jq hond;have HLEN:=jq (And.intro hlen h33);have HMB:=jq (And.intro hoff (And.intro hwt (And.intro hsm hbl)));have HD7:=jq hd7;have HLX:=jq (And.intro hrow (And.intro hl1 (And.intro hn1 hor)));clear hlen h33 hlaw hclean hst hok hond hrow hl1 hn1 hor hmb hd7 hoff hwt hsm hbl hao hsl
   go_wp2_with fail
   refine HSL.out.mono ?_;rintro e w8 ⟨v8,rfl,hO8,hB8⟩;obtain⟨ka,kc,rfl,_,hkL,hkg,_⟩:=own_shape hO8;unfold DV;obtain⟨W9,hW9⟩:=jl (w8.alloc (.cells #[.int .i64 (N:Int),.bool false,.int .i64 (-1),.slice ka 32 kc,.slice none 0 0] 74));obtain⟨b21,hb21⟩:=jl w8.heap.size;have hB89:Below w8.heap.size w8 W9:=by rw[hW9];exact(Below.refl _ w8).alloc jn _
   have hk21:Blk W9 b21 74 #[.int .i64 (N:Int),.bool false,.int .i64 (-1),.slice ka 32 kc,.slice none 0 0]:=by rw[hW9,hb21];exact Blk.new _ _ _
   have hrd:=RefD.read9_any ka kc mb.bl W9 (hkL.later hB89) (by have:=HLEN.out;omega) HMB.out.2.2.1 HMB.out.2.2.2;rw[HLEN.out.1]at hrd;unfold DV at hrd;have q0:=hk21.cell 0;have q1:=hk21.cell 1;have q2:=hk21.cell 2;have q3:=hk21.cell 3;have q4:=hk21.cell 4;simp only[jt,ja,jb]at q0 q1 q2 q3 q4;rw[hW9,hb21]at q0 q1 q2 q3 q4;have HB79:Hid (Below w7.heap.size w7 W9):=jq (hB8.trans (hB89.mono hB8.size));have HKL:=jq (hkL.later hB89);have HKG:Hid (∀b,Mem.blk ka=some b->w7.heap.size<=b/\b<W9.heap.size):=jq (λb hb=>by have:=hkg b hb;have:=hB89.size;omega);have HK21:=jq hk21;have HB21:Hid (w7.heap.size<=b21/\b21<W9.heap.size):=jq ⟨by rw[hb21];exact hB8.size,hk21.lt⟩;have HRD:=jq hrd;have HW9:=jq hW9;have HE21:=jq hb21;clear hO8 hB8 hkL hkg hW9 hb21 hB89 hk21 hrd HSL c1
   go_wp2_with fail
   rw[<-HW9.out,<-HE21.out];clear q0 q1 q2 q3 q4;refine HRD.out.mono ?_;rintro e w10 ⟨rv,rn,rc,ra,rl,rfl,hmr,hB10,hra,hrx⟩
   have herr: ((readM mb.bl).1.isNone&& !(readM mb.bl).2)=false:=by
    rcases HST.out with⟨h1,_⟩|h1
    ·have h1:readM mb.bl=(none,true):=h1;rw[h1]
     rfl
    ·have h1: (readM mb.bl).1=some (ver,next,fs):=h1;rw[h1]
     rfl
   rw[herr,if_neg Bool.false_ne_true]at hmr;rw[herr,if_neg Bool.false_ne_true]
   have hrm:rv=ver/\rn=next/\rl.map FR.f=fs:=by
    rcases HST.out with⟨h1,h2,h3,h4⟩|h1
    ·have h1:readM mb.bl=(none,true):=h1;rw[h1]at hmr;obtain⟨_,g1,g2,g3⟩:=hmr;rw[h2,h3,h4,g1,g2,g3];exact⟨rfl,rfl,rfl⟩
    ·have h1: (readM mb.bl).1=some (ver,next,fs):=h1;rw[h1]at hmr;exact hmr.2
   obtain⟨rln,hrln⟩:=jl rl.length;rw[<-hrln];obtain⟨W11,hW11⟩:=jl (w10.alloc (.cells #[.int .u64 (rv:Int),.int .u32 (rn:Int),.slice ra rln rc] 34));obtain⟨b22,hb22⟩:=jl w10.heap.size;have hB1011:Below w10.heap.size w10 W11:=by rw[hW11];exact(Below.refl _ w10).alloc jn _
   have hB911:Below W9.heap.size W9 W11:=hB10.trans (hB1011.mono hB10.size);have hB711:Below w7.heap.size w7 W11:=HB79.out.trans (hB911.mono HB79.out.size);have hB611:Below w6.heap.size w6 W11:=HB7.out.trans (hB711.mono HB7.out.size);have hk22:Blk W11 b22 34 #[.int .u64 (rv:Int),.int .u32 (rn:Int),.slice ra rln rc]:=by rw[hW11,hb22];exact Blk.new _ _ _
   have hfz:=fuse_on F2 HGT.out.1.1 HGT.out.1.2 (HD7.out.later hB711);have c1:=(HCL.out W11 hB611).1;rw[hW11]at c1;have HFZ:=jq hfz;have HMR:=jq (And.intro (hmr.1.later hB1011) (And.intro hrm hrln));have HRA:Hid ((∀b,Mem.blk ra=some b->w7.heap.size<=b)/\∀x∈rl,∀b,Mem.blk x.a=some b->w7.heap.size<=b):=jq ⟨λb hb=>by have:=hra b hb;have:=HB79.out.size;omega,λx hx b hb=>by have:=hrx x hx b hb;have:=HB79.out.size;omega⟩;have HK22:=jq hk22;have HB22:Hid (w7.heap.size<=b22):=jq (by rw[hb22];have:=hB10.size;have:=HB79.out.size;omega);have HB611:=jq hB611;have HB911:=jq hB911;have HW11:=jq hW11;have HE22:=jq hb22;clear hmr herr hrm hrln hW11 hb22 hB1011 hB911 hB711 hB611 hk22 hfz hra hrx hB10 HRD
   go_wp2_with fail
   rw[<-HW11.out,<-HE22.out];clear c1;refine HFZ.out.mono ?_;rintro e w12 ⟨rfl,hD12,ho12⟩;have hu12:Upon (λk=>k=sd\/k=S.g) W11 w12:=Upon.of_only ho12 (λx hx=>.inl (by rw[jE.1 hx];exact .inl rfl))
   have hzd:∀k,(k=sd\/k=S.g)->D k:=λk hk=>by
    rcases hk with rfl|rfl
    ·exact HDD.out.1
    ·exact HDD.out.2
   have hM12:=(HM6.out.later HB611.out).step (hu12.mono hzd);have hop:=open_on hD12 (show mb.off=false from HMB.out.1) (show mb.wt= []from HMB.out.2.1) (by show 33<=mb.bl.length;have:=HLEN.out;omega);have c1:=hM12.blk.cell 1;unfold PD.cells at c1;simp only[jt,ja,jb]at c1;rw[<-HTE.out.2.2.2.2.2.2.2.2.2.2.2]at c1;have HOP:=jq hop;have HM12:=jq hM12;have HU12:=jq hu12;have HZD:=jq hzd;clear hD12 ho12 hu12 hzd hM12 hop HFZ
   go_wp2_with fail
   refine HOP.out.mono ?_;rintro e w13 ⟨wv',hD13,hu13,-,hop13⟩
   have hsh: (∃s1,e=.returned (.tuple #[.pointer (some ⟨s1,0,none⟩),.int .i64 0]))\/e=.returned (.tuple #[.pointer none,.int .i64 6]):=by
    unfold Opened at hop13;rcases HAO.out.1 with h1|h1
    ·rw[if_pos h1]at hop13;obtain⟨s1,_,_,_,_,h2,_⟩:=hop13;exact .inl ⟨s1,h2⟩
    ·rw[if_neg (by rw[h1];decide),h1]at hop13;exact .inr hop13
   have hu13':Upon (λk=>k=sd\/k=S.g) w12 w13:=hu13.mono (λk hk=>has_nil (X:=λk=>k=sd\/k=S.g) (.inl rfl) (.inr rfl) k hk);have hM13:=HM12.out.step (hu13'.mono HZD.out);have hbk:=back_on st tr HGT.out.2 HKT.out.2.2 hD13 HAO.out.2.1;have c1:=hM13.blk.cell 1;unfold PD.cells at c1;simp only[jt,ja,jb]at c1;rw[<-HTE.out.2.2.2.2.2.2.2.2.2.2.2]at c1;have HBK:=jq hbk;have HM13:=jq hM13;have HU13:=jq hu13';clear hD13 hu13 hop13 hu13' hM13 hbk HOP;rcases hsh with⟨s1,rfl⟩|rfl
   all_goals
    go_wp2_with fail
    refine HBK.out.mono ?_;rintro e w14 ⟨rfl,wv2,hD14,hu14,-⟩;have hn:=hD14.nil rfl;subst hn;clear c1;obtain⟨MB,hMB⟩:∃x,x=backD (openL {mb with fuse:=F2}).2.1 st tr:=⟨_,rfl⟩;have hlaw2:=HAO.out.2.2 st tr;rw[<-hMB]at hD14 hlaw2;have hoff2:MB.off=false:=by rw[hMB];rfl
    have hwt2:MB.wt= []:=by rw[hMB];rfl
    have hfz2:MB.fuse<0:=by rw[hMB];show(-1:Int) <0;decide
    have hlen2:MB.bl.length=N:=hlaw2.1.trans HLEN.out.1;have hM14:=HM13.out.step (hu14.mono HZD.out);have hU:Upon (λk=>k=sd\/k=S.g) W11 w14:=(HU12.out.trans HU13.out (λk hk=>.inl hk)).trans hu14 (λk hk=>.inl hk);have hz:∀k,w7.heap.size<=k->¬(k=sd\/k=S.g):=λk hk=>by have:=HLT6.out;have:=HB7.out.size;omega
    have hk21:=(HK21.out.below HB911.out HK21.out.lt).upon hU (hz b21 HB21.out.1);have hk22:=HK22.out.upon hU (hz b22 HB22.out);have hk14:=(HK14'.out.below HB611.out HK14'.out.lt).upon hU HNN14.out.1;have hkl:=(HKL.out.later HB911.out).upon hU (λb hb=>hz b (HKG.out b hb).1);have hfi:FilesIn w14 ra rl:=⟨HMR.out.1.row.upon hU (λb hb=>hz b (HRA.out.1 b hb)),λx hx=>⟨(HMR.out.1.blocks x hx).1.upon hU (λb hb=>hz b (HRA.out.2 x hx b hb)),(HMR.out.1.blocks x hx).2⟩⟩;have hB14:Below w1.heap.size w1 w14:=(HB6.out.trans (HB611.out.mono HB6.out.size)).trans (hU.below (by have:=HB6.out.size;have:=HB611.out.size;omega) (λk hk=>HM6.out.base k (HZD.out k hk)))
    have hmx:∀V,Below w14.heap.size w14 V->Calls Tryz.prog 34 #[.pointer (some ⟨sd,0,none⟩),.agg #[.int .i64 (N:Int),.bool false,.int .i64 (-1),.slice ka 32 kc,.slice none 0 0],.agg #[.int .u64 (rv:Int),.int .u32 (rn:Int),.slice ra rln rc]] V (Mixed2 MB.bl mb.bl (manL rv rn (rl.map FR.f)) V):=λV hV=>by
     obtain⟨-,⟨g1,g2,g3⟩,g4⟩:=HMR.out;have hok:=HOK.out;have hh:=RefD.mixed10_any (hD14.later hV) hoff2 (by rw[hlen2];exact HLEN.out.2) hD14.small hD14.len ka kc mb.bl (hkl.later hV) (by have:=HLEN.out;omega) HMB.out.2.2.1 HMB.out.2.2.2 rv rn ra rc rl (hfi.later hV) (by rw[g1];exact hok.ver) (by rw[g2];exact hok.next) (λx hx=>(hok.fit x.f (by rw[<-g3];exact List.mem_map.2 ⟨x,hx,rfl⟩)).2.1) (by rw[g1,g2,g3];exact may_short hok.may) (by have h9:=hok.few;rw[<-g3,jP]at h9;omega);unfold DV at hh;rw[HLEN.out.1,<-g4]at hh;exact hh
    have hcl:∀V,Below w14.heap.size w14 V->V.cell? ⟨p,1,none⟩=some (.pointer (some ⟨sd,0,none⟩))/\(V.cell? ⟨b22,0,none⟩=some (.int .u64 (rv:Int))/\V.cell? ⟨b22,1,none⟩=some (.int .u32 (rn:Int))/\V.cell? ⟨b22,2,none⟩=some (.slice ra rln rc))/\V.cell? ⟨b21,0,none⟩=some (.int .i64 (N:Int))/\V.cell? ⟨b21,1,none⟩=some (.bool false)/\V.cell? ⟨b21,2,none⟩=some (.int .i64 (-1))/\V.cell? ⟨b21,3,none⟩=some (.slice ka 32 kc)/\V.cell? ⟨b21,4,none⟩=some (.slice none 0 0):=λV hV=>by
     have g1:=hk22.below hV hk22.lt;have g2:=hk21.below hV hk21.lt;have g0:=(hM14.later hV).blk.cell 1;unfold PD.cells at g0;simp only[jt,ja,jb]at g0;rw[<-HTE.out.2.2.2.2.2.2.2.2.2.2.2]at g0;exact⟨g0,⟨g1.cell 0,g1.cell 1,g1.cell 2⟩,g2.cell 0,g2.cell 1,g2.cell 2,g2.cell 3,g2.cell 4⟩
    have HCL2:=jq hcl;have HMX:=jq hmx;have HD14:=jq hD14;have HM14:=jq hM14;have HL2:=jq (And.intro hlaw2 (And.intro hoff2 (And.intro hwt2 (And.intro hfz2 hlen2))));have HK14:=jq hk14;have HK22:=jq hk22;have HB14:=jq hB14;have hS0:=hcl w14.drew (Below.refl _ w14).drew;clear hMB hlaw2 hoff2 hwt2 hfz2 hlen2 hM14 hU hz hk21 hk22 hk14 hkl hfi hB14 hmx hcl hD14 hu14
    go_wp2_with fail
    go_region_held3 (λw'=>w'.cell? ⟨p,1,none⟩=some (.pointer (some ⟨sd,0,none⟩))/\(w'.cell? ⟨b22,0,none⟩=some (.int .u64 (rv:Int))/\w'.cell? ⟨b22,1,none⟩=some (.int .u32 (rn:Int))/\w'.cell? ⟨b22,2,none⟩=some (.slice ra rln rc))/\w'.cell? ⟨b21,0,none⟩=some (.int .i64 (N:Int))/\w'.cell? ⟨b21,1,none⟩=some (.bool false)/\w'.cell? ⟨b21,2,none⟩=some (.int .i64 (-1))/\w'.cell? ⟨b21,3,none⟩=some (.slice ka 32 kc)/\w'.cell? ⟨b21,4,none⟩=some (.slice none 0 0)) (first|exact hS0|exact hS15) (first|(go_at_call 34;refine(HMX.out _ (Below.refl _ w14).drew).mono ?_;rintro e w15 ⟨r,rfl,hB15,hun⟩;have hb15:Below w14.heap.size w14 w15:=(Below.refl _ w14).drew.trans hB15;have hS15:=HCL2.out w15 hb15;have HB15:=jq hb15;have HUN2:=jq hun;clear hB15 hb15 hun;dsimp only))
    clear hS0 HMX;have HB115:Hid (Below w1.heap.size w1 w15):=jq (HB14.out.trans (HB15.out.mono HB14.out.size))
    cases r with
    |true=>
     have HAW:=jq (awake_any w15 (HT.out.below HB115.out HT.out.lt));clear hS15
     go_wp2_with fail
     refine HAW.out.mono ?_;rintro e w16 ⟨rfl,hB16⟩;have HEND:=jq (HB115.out.trans (hB16.mono HB115.out.size));clear hB16
     go_wp2_with fail
     go_ret
     exact⟨rfl,HEND.out⟩
    |false=>
     obtain⟨⟨hlen3,hlaw3⟩,hoff2,hwt2,hfz2,hlen2⟩:=HL2.out;obtain⟨-,⟨g1,g2,g3⟩,g4⟩:=HMR.out;have hun:=HUN2.out rfl;rw[g1,g2,g3]at hun;obtain⟨hst2,hfar⟩:=hlaw3 hun;have hop:=open_stand (HD14.out.later HB15.out) hoff2 hfz2 hwt2 (by rw[hlen2];exact HLEN.out.2) hst2 (by rw[hlen2];exact HOK.out) (HON.out.far HOK.out hfar) (HT.out.below HB115.out HT.out.lt) HT.out.lt HB115.out.size (λk hk=>HM6.out.base k (has_nil HDD.out.1 HDD.out.2 k hk));obtain⟨c1,-⟩:=hS15;have HOP:=jq hop;have HRV:=jq g1;clear hlen3 hlaw3 hoff2 hwt2 hfz2 hlen2 g1 g2 g3 g4 hun hst2 hfar hop
     go_wp2_with fail
     refine HOP.out.mono ?_;rintro e w16 ⟨s2,cm2,Q2,m2,rfl,hon16,-,hu16,-⟩;have hu16':Upon (λk=>k=sd\/k=S.g) w15 w16:=hu16.mono (λk hk=>has_nil (X:=λk=>k=sd\/k=S.g) (.inl rfl) (.inr rfl) k hk);have hM16:=(HM14.out.later HB15.out).step (hu16'.mono HZD.out);have hk14:=(HK14.out.below HB15.out HK14.out.lt).upon hu16' HNN14.out.1;have hk22:=(HK22.out.below HB15.out HK22.out.lt).upon hu16' (by have:=HLT6.out;have:=HB7.out.size;have:=HB22.out;omega);have hB16:Below w1.heap.size w1 w16:=HB115.out.trans (hu16'.below HB115.out.size (λk hk=>HM6.out.base k (HZD.out k hk)));have hcl:∀V,Below w16.heap.size w16 V->(V.cell? ⟨b14,0,none⟩=some (.int .u64 (tv:Int))/\V.cell? ⟨b14,1,none⟩=some (.int .u32 (tn:Int))/\V.cell? ⟨b14,2,none⟩=some (.slice tna tnl tnc))/\V.cell? ⟨b22,0,none⟩=some (.int .u64 (rv:Int)):=λV hV=>⟨⟨(hk14.below hV hk14.lt).cell 0,(hk14.below hV hk14.lt).cell 1,(hk14.below hV hk14.lt).cell 2⟩,(hk22.below hV hk22.lt).cell 0⟩
     have hsy:∀V,Below w16.heap.size w16 V->Calls Tryz.prog 35 #[.pointer (some ⟨p,0,none⟩),.pointer (some ⟨s2,0,none⟩),.slice tma tml tmc,.agg #[.int .u64 (tv:Int),.int .u32 (tn:Int),.slice tna tnl tnc]] V λe w'=>e=.returned (.bool true)/\Below V.heap.size V w':=λV hV=>by
      have hM:=hM16.later hV;have hh:=stands_yes (hon16.later hV) hM.blk LX HLX.out.1 HLX.out.2.1 HLX.out.2.2.1 hM.hl hM.lh T.ma T.mc T.LM hM.kept.ml hM.kept.ll T.kv T.kn T.na T.lN.length T.nc HLX.out.2.2.2;obtain⟨e1,e2,e3,e4,e5,e6,e7,e8,e9,e10,e11,e12⟩:=HTE.out;rw[<-e1,<-e2,<-e3,<-e4,<-e5,<-e6,<-e7,<-e8]at hh;exact hh
     have hvs:∀V,Below w16.heap.size w16 V->Calls Tryz.prog 16 #[.pointer (some ⟨s2,0,none⟩)] V λe w'=>e=.returned (.int .u64 (rv:Int))/\w'=V:=λV hV=>by
      rw[HRV.out];exact on_version (hon16.later hV)
     have haw:∀V,Below w16.heap.size w16 V->Calls Tryz.prog 9 #[] V λe w'=>e=.returned (.bool true)/\Below V.heap.size V w':=λV hV=>awake_any V (HT.out.below (hB16.trans (hV.mono hB16.size)) HT.out.lt)
     have HSY:=jq hsy;have HVS:=jq hvs;have HAW:=jq haw;have HCL3:=jq hcl;have HB16:=jq hB16;have hS0:=hcl w16.drew (Below.refl _ w16).drew;have hrr: ((rv:Int)==(rv:Int))=true:=by simp
     clear hon16 hu16 hu16' hM16 hk14 hk22 hB16 hcl hsy hvs haw c1
     go_wp2_with fail
     go_region_held3 (λw'=>(w'.cell? ⟨b14,0,none⟩=some (.int .u64 (tv:Int))/\w'.cell? ⟨b14,1,none⟩=some (.int .u32 (tn:Int))/\w'.cell? ⟨b14,2,none⟩=some (.slice tna tnl tnc))/\w'.cell? ⟨b22,0,none⟩=some (.int .u64 (rv:Int))) (first|exact hS0|exact hS17|exact hS19) (first|(go_at_call 35;refine(HSY.out _ (Below.refl _ w16).drew).mono ?_;rintro e w17 ⟨rfl,hb17⟩;have hB17:Below w16.heap.size w16 w17:=(Below.refl _ w16).drew.trans hb17;have hS17:=HCL3.out w17 hB17;have HB17':=jq hB17;clear hb17 hB17;dsimp only)|(go_at_call 16;refine(HVS.out _ HB17'.out).mono ?_;rintro e w18 ⟨rfl,hw18⟩;have hw18:=hw18.symm;subst hw18;dsimp only)|(go_at_call 9;refine(HAW.out _ HB17'.out).mono ?_;rintro e w19 ⟨rfl,hb19⟩;have hB19:=HB17'.out.trans (hb19.mono HB17'.out.size);have hS19:=HCL3.out w19 hB19;have HB19:=jq hB19;clear hb19 hB19;dsimp only))
     have HEND:=jq (HB16.out.trans (HB19.out.mono HB16.out.size))
     go_wp2_with fail
     go_ret
     exact⟨rfl,HEND.out⟩
end Full
namespace Full
open Go.RowKit Go.Deep Mem Crc Go.Maps Dk Mani RefF Go.Proofs.YtbfochdoeibofaaGreatDoor.Read
open Store (Chg none' nv Files setC setC_same setC_other)
open Ext (Tab)
variable {Z:Prop} {B p cnt i:Nat} {w w':World} {S:PD}
attribute [local go_sem] Oper.semAt_some
end Full
end Go.Proofs.YtbfochdoeibofaaGreatDoor
