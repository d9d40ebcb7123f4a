/- A part of the proof. -/
import Derived.Test.YtbfochdoeibofaaGreatDoorG0
import Derived.Test.YtbfochdoeibofaaGreatDoorG0H
import Derived.Test.YtbfochdoeibofaaGreatDoorG0Q
import Derived.Test.YtbfochdoeibofaaGreatDoorG4
import Derived.Test.YtbfochdoeibofaaGreatDoorG29
import Derived.Test.YtbfochdoeibofaaGreatDoorG30
import Derived.Test.YtbfochdoeibofaaGreatDoorG31
import Derived.Lib.SlBytesConst
import Derived.Deep.QuietTactic
import Derived.Deep.RegionHeld3
import Derived.Deep.RegionLaw
import Derived.BigRegion
set_option maxHeartbeats 4000000
set_option maxRecDepth 100000
namespace Go.Proofs.YtbfochdoeibofaaGreatDoor
namespace Full
open Go.RowKit Go.Deep Mem Crc Go.Maps Dk Mani
open Store (Chg none' nv Files setC setC_same setC_other)
open Ext (Tab freeN)
theorem d0_len (N:Nat): (D0 N).bl.length=N:=by unfold D0;exact List.length_replicate
theorem begin_on (N:Nat) (hN:33<=N) (hN2:N<=2000) (w:World) (hT:Tab w):
  Calls Tryz.prog 10 #[.int .i64 (N:Int)] w λe w'=>∃p s d g cm Q,e=.returned (.tuple #[.pointer (some ⟨p,0,none⟩),.bool true])/\Blk w' p 38 #[.pointer (some ⟨s,0,none⟩),.pointer (some ⟨d,0,none⟩),.int .u64 0,.int .u32 0,.slice none 0 0,.slice none 0 0,.slice none 0 0,.slice none 0 0,.bool false]/\On w.heap.size s d g cm w' Q (D0 N) 0 0 [] none' (λ_=>none) 0/\¬Q p/\w.heap.size<=p/\Below w.heap.size w w':=by
 have hp:=hT.lt;refine(begin_any N hN hN2 w).mono ?_;rintro e w' ⟨p,s,d,g,cm,Q,rfl,hb,hf,hq,hqs,hp2,hB⟩;exact⟨p,s,d,g,cm,Q,rfl,hb,⟨⟨_,_,_,_,hf,rfl⟩,rfl,rfl,by rw[d0_len];exact hN,on_none N,by rw[d0_len];exact okm_none N,few_none 0,hqs,hT.below hB hp,hp,hB.size⟩,hq,hp2,hB⟩
theorem nowF_none (H:Files):nowF none' H=H:=rfl
theorem one_ne (nm b:List UInt8):¬∀x,oneC nm b x=none:=λh=>by
 have:=h nm;rw[oneC_same]at this;cases this
attribute [local go_sem] Oper.semAt_some
theorem conv_any {va:Option Addr} {vc:Nat} {b:List UInt8} {w:World} (hL:Lies w va (b.map bv)): (convert 22 9 (.slice va b.length vc)).run Tryz.prog w=.ok (nv b) w:=by
 cases va with
 |none=>
  have e0:b= []:=by
   rcases hL with h|⟨g,o,h,_⟩
   ·exact List.map_eq_nil_iff.1 h
   ·cases h
  subst e0;show(convert 22 9 (.slice none 0 vc)).run Tryz.prog w=.ok (.string ⟨#[]⟩) w
  kernel_rfl
 |some ad=>exact run_convert_bytes_back w 22 9 5 _ vc _ Tryz.underlying22 Tryz.underlying5 Tryz.underlying9 (λj hj=>lies_add hL j _ (by simp[hj,bv]))
theorem new_lies2 (w:World) (t:TypeId) (cs:Array Value) (f:Nat×Nat):Lies (w.alloc (.cells cs t f)) (some ⟨w.heap.size,0,none⟩) cs.toList:=.inr ⟨w.heap.size,0,rfl,by simp,λi u hu=>by
 rw[Nat.zero_add,cell_of_row _ w.heap.size i cs t f (heap_alloc_new w _)]
 simpa using hu⟩
theorem after_len {B s d g cm:Nat} {w:World} {Q:Nat->Prop} {m:DM} {ver next:Nat} {fs:List Fil} {C:Chg} {H:Files} {n:Nat} (h:On B s d g cm w Q m ver next fs C H n) (hz:m.fuse<0) (C':Chg) (v:Nat) (p:Nat×List Fil): (afterD m C' v p).bl.length=m.bl.length:=commit_len h.wt (commit_free hz C' p.2 (v+1) (manL (v+1) p.1 p.2)).1
theorem commit_one {B s d g cm:Nat} {w:World} {Q:Nat->Prop} {N:Nat} {b:List UInt8} {n:Nat} (h:On B s d g cm w Q (D0 N) 0 0 [] (oneC [97] b) (λ_=>none) n) (hn:n<=9000) (hb:b.length<=10000) (hf:Mani.many b.length<=(freeB N []).length):
  Calls Tryz.prog 13 #[.pointer (some ⟨s,0,none⟩)] w λe w'=>e=.returned (.int .i64 0)/\∃Q' m',On B s d g cm w' Q' m' 1 1 [oneF [97] b N] none' (nowF (oneC [97] b) (λ_=>none)) 0/\m'.bl.length=N/\(∀k,Q' k->Q k\/w.heap.size<=k)/\Upon Q w w':=by
 have hbig:=h.big;have hsm:=h.small;rw[d0_len]at hbig hsm;have hp:=one_plan (nm:=[97]) (b:=b) (N:=N) (by omega) hsm (by decide) (by decide) hb hf;refine(on_commit h (show(-1:Int) <0 by decide) hn (oneC_keys [97] b) (one_ne [97] b)).mono ?_;intro e w' hc;rw[d0_len,hp]at hc;obtain⟨he,Q',h1,h2,h3⟩:=hc;exact⟨he,Q',_,h1,(after_len h (show(-1:Int) <0 by decide) _ _ _).trans (d0_len N),h2,h3⟩
def wB (w:World) (x:UInt8):World:=w.alloc (.cells #[.int .u8 (x.toNat:Int)] 5 (1,2))
theorem wB_below (w:World) (x:UInt8):Below w.heap.size w (wB w x):=(Below.refl _ w).alloc jn _
theorem write_byte {B s d g cm:Nat} {w:World} {Q:Nat->Prop} {m:DM} {ver next:Nat} {fs:List Fil} {C:Chg} {H:Files} {n:Nat} (h:On B s d g cm w Q m ver next fs C H n) (hn:n<=100000) (x:UInt8):
  Calls Tryz.prog 11 #[.pointer (some ⟨s,0,none⟩),.string ⟨#[97]⟩,.slice (some ⟨w.heap.size,0,none⟩) 1 1] (wB w x) λe w'=>e=.returned (.int .i64 0)/\∃Q',On B s d g cm w' Q' m ver next fs (setC C [97] (some (some [x]))) H (n+1)/\(∀k,Q' k->Q k\/w.heap.size<=k)/\Upon Q w w':=by
 have hB:=wB_below w x;refine(on_write (h.later hB) hn [97] (by decide) (by decide) (some ⟨w.heap.size,0,none⟩) 1 [x] (new_lies2 w 5 #[.int .u8 (x.toNat:Int)] (1,2)) (by simp)).mono ?_;rintro e w' ⟨rfl,Q',h1,h2,h3⟩;exact⟨rfl,Q',h1,λk hk=>(h2 k hk).imp id (λh=>Nat.le_trans hB.size h),(Upon.of_below hB).trans h3 (λk hk=>.inl hk)⟩
theorem awake_any (w:World) (hT:Tab w):Calls Tryz.prog 9 #[] w λe w'=>e=.returned (.bool true)/\Below w.heap.size w w':=by
 have HB:Hid (Calls Tryz.prog 10 #[.int .i64 40] w λe w'=>∃p s d g cm Q,e=.returned (.tuple #[.pointer (some ⟨p,0,none⟩),.bool true])/\Blk w' p 38 #[.pointer (some ⟨s,0,none⟩),.pointer (some ⟨d,0,none⟩),.int .u64 0,.int .u32 0,.slice none 0 0,.slice none 0 0,.slice none 0 0,.slice none 0 0,.bool false]/\On w.heap.size s d g cm w' Q (D0 40) 0 0 [] none' (λ_=>none) 0/\¬Q p/\w.heap.size<=p/\Below w.heap.size w w'):=jq (begin_on 40 (by decide) (by decide) w hT);have kc:=fun(w:World) (C:Array Value) (n c:Nat)=>Lib.run_convert_bytes_const (P:=Tryz.prog) w 22 5 C n c Tryz.underlying22 Tryz.underlying5
 clear hT
 go_enter Tryz.func9,Tryz.ntmps9
 go_wp2_with fail
 refine HB.out.mono ?_;rintro e w1 ⟨p,s,d,g,cm,Q,rfl,hp,hon,hqp,hpl,hB1⟩;have HW1:=jq (write_byte hon (by decide) 98);have p0:=hp.cell 0
 simp at p0
 have hpw:=hp.lt;have HP:=jq hp;have HQP:=jq hqp;have HPL:=jq hpl;have HB1:=jq hB1;have HON:=jq hon;clear hp hon hqp hpl hB1 HB
 go_wp2_with fail
 refine HW1.out.mono ?_;rintro e w2 ⟨rfl,Q2,hon2,hq2,hu2⟩;have hp2:=HP.out.upon hu2 HQP.out;have hqp2:¬Q2 p:=λhk=>(hq2 p hk).elim HQP.out (λh=>by omega)
 have p0:=hp2.cell 0
 simp at p0
 have HB2:=jq (HB1.out.trans (HON.out.up hu2));have HF:=jq (on_forget hon2);have HP2:=jq hp2;have HQP2:=jq hqp2;have HON2:=jq hon2;clear hp2 hqp2 hon2 hq2 hu2 HW1
 go_wp2_with fail
 refine HF.out.mono ?_;rintro e w3 ⟨rfl,hon3,hu3⟩;have hp3:=HP2.out.upon hu3 HQP2.out;have p0:=hp3.cell 0
 simp at p0
 have HB3:=jq (HB2.out.trans (HON2.out.up hu3));have HN:=jq (on_names hon3 (by decide));have HP3:=jq hp3;have HON3:=jq hon3;clear hp3 hon3 hu3 HF
 go_wp2_with fail
 refine HN.out.mono ?_;rintro e w4 ⟨v4,ss,rfl,hO4,hm4,_,_,hB4⟩
 have hss:ss= []:=by
  refine List.eq_nil_iff_forall_not_mem.2 (λx hx=>?_);exact(hm4 x).1 hx rfl
 subst hss;obtain⟨a4,c4,rfl,_,_,_,_⟩:=own_shape hO4;have hon4:=HON3.out.later hB4;have hp4:=HP3.out.below hB4 HP3.out.lt;have p0:=hp4.cell 0
 simp at p0
 have HW2:=jq (write_byte hon4 (by decide) 99);have hpw4:=hp4.lt;have HP4:=jq hp4;have HON4:=jq hon4;have HB4:=jq (HB3.out.trans (hB4.mono HB3.out.size));simp only[List.length_nil];clear hp4 hon4 hB4 hm4 hO4 HN
 go_wp2_with fail
 refine HW2.out.mono ?_;rintro e w5 ⟨rfl,Q5,hon5,hq5,hu5⟩;have hp5:=HP4.out.upon hu5 HQP2.out;have hqp5:¬Q5 p:=λhk=>(hq5 p hk).elim HQP2.out (λh=>by omega)
 have p0:=hp5.cell 0
 simp at p0
 have HB5:=jq (HB4.out.trans (HON4.out.up hu5));have HC:=jq (commit_one (b:=[99]) hon5 (by decide) (by decide) (by rw[free40];decide));have HP5:=jq hp5;have HQP5:=jq hqp5;have HON5:=jq hon5;clear hp5 hqp5 hon5 hq5 hu5 HW2
 go_wp2_with fail
 refine HC.out.mono ?_;rintro e w6 ⟨rfl,Q6,m6,hon6,hm6,hq6,hu6⟩;have hp6:=HP5.out.upon hu6 HQP5.out;have p0:=hp6.cell 0
 simp at p0
 have HB6:=jq (HB5.out.trans (HON5.out.up hu6));have hrd:=on_read hon6 [97] (by decide)
 have hans:ansF (nowF none' (nowF (oneC [97] [99]) (λ_=>none)) [97])=([99],0):=by
  rw[nowF_none];unfold nowF;rw[oneC_same]
  rfl
 rw[hans]at hrd;have HRD:=jq hrd;have HP6:=jq hp6;have HON6:=jq hon6;have HM6:=jq hm6;clear hp6 hon6 hq6 hu6 hm6 hrd hans HC
 go_wp2_with fail
 refine HRD.out.mono ?_;rintro e w7 ⟨v7,rfl,hO7,hB7⟩;obtain⟨a7,c7,rfl,_,hL7,_,_⟩:=own_shape hO7;have hcv0: (convert 22 9 (.slice a7 ([99]:List UInt8).length c7)).run Tryz.prog w7=.ok (.string ⟨#[99]⟩) w7:=conv_any hL7;have hp7:=HP6.out.below hB7 HP6.out.lt;have p0:=hp7.cell 0
 simp at p0
 have hon7:=HON6.out.later hB7;have HV:=jq (on_version hon7);have HB7:=jq (HB6.out.trans (hB7.mono HB6.out.size));have hfr:=on_free hon7;rw[HM6.out,one40,free40']at hfr;have HFR:=jq hfr;simp only[List.length_cons,List.length_nil,Nat.zero_add]at hcv0⊢;clear hO7 hL7 hB7 hp7 hon7 hfr HRD
 go_wp2_with fail
 refine HV.out.mono ?_;rintro e w8 ⟨rfl,rfl⟩
 go_wp2_with fail
 refine HFR.out.mono ?_;rintro e w9 ⟨rfl,hB9⟩;have HB9:=jq (HB7.out.trans (hB9.mono HB7.out.size));clear hB9
 go_wp2_with fail
 go_ret
 exact⟨rfl,HB9.out⟩
end Full
namespace Full
open Go.RowKit Go.Deep Mem Crc Go.Maps Dk Mani RefF
open Store (Chg none' nv Files setC setC_same setC_other)
open Ext (Tab)
structure PD where
 s:Nat
 d:Nat
 g:Nat
 cm:Nat
 Q:Nat->Prop
 m:DM
 ver:Nat
 next:Nat
 fs:List Fil
 C:Chg
 H:Files
 LH:List FF
 L:List FF
 ch:List (List UInt8)
 wt:Bool
 a:Option Addr
 c:Nat
 l:List FR
 ah:Option Addr
 hc:Nat
 an:Option Addr
 nc:Nat
 vc:Value
def PD.D (S:PD) (p:Nat):Nat->Prop:=λk=>S.Q k\/k=p\/S.vc.ownBlock=some k
def PD.A (S:PD) (p:Nat):Nat->Prop:=λk=>S.D p k\/Mem.blk S.a=some k\/(∃x∈S.l,Mem.blk x.a=some k)\/Mem.blk S.ah=some k\/Mem.blk S.an=some k
def PD.cells (S:PD):Array Value:=#[.pointer (some ⟨S.s,0,none⟩),.pointer (some ⟨S.d,0,none⟩),.int .u64 (S.ver:Int),.int .u32 (S.next:Int),.slice S.a S.l.length S.c,.slice S.ah S.LH.length S.hc,.slice S.an S.L.length S.nc,S.vc,.bool S.wt]
def Away (B:Nat) (D:Nat->Prop) (w:World) (a:Option Addr):Prop:=∀k,Mem.blk a=some k->¬D k/\B<=k/\k<w.heap.size
theorem Away.step {B:Nat} {D D':Nat->Prop} {w w':World} {a:Option Addr} (h:Away B D w a) (hs:w.heap.size<=w'.heap.size) (hd:∀k,D' k->D k\/w.heap.size<=k):Away B D' w' a:=λk hk=>by
 obtain⟨h1,h2,h3⟩:=h k hk;exact⟨λh4=>(hd k h4).elim h1 (λh5=>by omega),h2,by omega⟩
theorem Away.none (B:Nat) (D:Nat->Prop) (w:World):Away B D w none:=λk hk=>by cases hk
theorem Away.lies {B:Nat} {D:Nat->Prop} {w w':World} {a:Option Addr} {xs:List Value} (h:Away B D w a) (hL:Lies w a xs) (hu:Upon D w w'):Lies w' a xs:=hL.upon hu (λk hk=>(h k hk).1)
structure Play (Z:Prop) (B p cnt i:Nat) (w:World) (S:PD):Prop where
 on:On B S.s S.d S.g S.cm w S.Q S.m S.ver S.next S.fs S.C S.H i
 fuse:Z->S.m.fuse<0
 slots:Slots S.m.bl S.ver S.next S.fs
 len:S.m.bl.length=cnt
 blk:Blk w p 38 S.cells
 pq:¬S.Q p
 pb:B<=p
 chq:∀k,S.vc.ownBlock=some k->¬S.Q k
 own:w.ownsRow B 9 1 S.vc S.ch.length (S.ch.map nv)
 fl:S.l.map FR.f=S.fs
 files:FilesIn w S.a S.l
 fa:Away B (S.D p) w S.a
 fb:∀x∈S.l,Away B (S.D p) w x.a
 hl:Lies w S.ah (flatP S.LH)
 ha:Away B (S.D p) w S.ah
 nl:Lies w S.an (flatP S.L)
 na:Away B (S.D p) w S.an
 rowH:IsRow S.LH S.H
 rowN:IsRow S.L (nowF S.C S.H)
 chok:ChOk S.C S.ch
 wts:S.wt=false↔∀nm,S.C nm=none
 vi:S.ver<=i
 ni:S.next<=100*i
 chl:S.ch.length<=i
 ll:S.L.length<=i
 lh:S.LH.length<=i
 each:∀x∈S.L,(1<=x.1.length/\x.1.length<=32)/\x.2.length<=1000*i
 eachH:∀x∈S.LH,(1<=x.1.length/\x.1.length<=32)/\x.2.length<=1000*i
 capN:S.L.length<=S.nc
 capH:S.LH.length<=S.hc
variable {Z:Prop} {B p cnt i:Nat} {w w':World} {S:PD} {D':Nat->Prop}
theorem Play.dlt (h:Play Z B p cnt i w S):∀k,S.D p k->B<=k/\k<w.heap.size:=λk hk=>by
 rcases hk with hk|rfl|hk
 ·exact⟨h.on.base k hk,h.on.lt k hk⟩
 ·exact⟨h.pb,h.blk.lt⟩
 ·exact h.own.lt k hk
theorem Play.up (h:Play Z B p cnt i w S) (hu:Upon (S.D p) w w'):Below B w w':=hu.below h.on.low (λk hk=>(h.dlt k hk).1)
theorem Play.pv (h:Play Z B p cnt i w S):¬S.vc.ownBlock=some p:=λe=>own_ne_blk h.own h.blk (by decide) e
theorem Play.keepF (h:Play Z B p cnt i w S) (hu:Upon (S.D p) w w') (hd:∀k,D' k->S.D p k\/w.heap.size<=k):FilesIn w' S.a S.l/\Away B D' w' S.a/\∀x∈S.l,Away B D' w' x.a:=
 ⟨⟨h.fa.lies h.files.row hu,λx hx=>⟨(h.fb x hx).lies (h.files.blocks x hx).1 hu,(h.files.blocks x hx).2⟩⟩,h.fa.step hu.size hd,λx hx=>(h.fb x hx).step hu.size hd⟩
theorem Play.keepH (h:Play Z B p cnt i w S) (hu:Upon (S.D p) w w') (hd:∀k,D' k->S.D p k\/w.heap.size<=k):Lies w' S.ah (flatP S.LH)/\Away B D' w' S.ah:=⟨h.ha.lies h.hl hu,h.ha.step hu.size hd⟩
theorem Play.keepN (h:Play Z B p cnt i w S) (hu:Upon (S.D p) w w') (hd:∀k,D' k->S.D p k\/w.heap.size<=k):Lies w' S.an (flatP S.L)/\Away B D' w' S.an:=⟨h.na.lies h.nl hu,h.na.step hu.size hd⟩
theorem Play.later (h:Play Z B p cnt i w S) (hB:Below w.heap.size w w'):Play Z B p cnt i w' S:=by
 have hu:Upon (S.D p) w w':=Upon.of_below hB;obtain⟨f1,f2,f3⟩:=h.keepF hu (λk hk=>.inl hk);obtain⟨h1,h2⟩:=h.keepH hu (λk hk=>.inl hk);obtain⟨n1,n2⟩:=h.keepN hu (λk hk=>.inl hk);exact⟨h.on.later hB,h.fuse,h.slots,h.len,h.blk.below hB h.blk.lt,h.pq,h.pb,h.chq,own_later h.own hB,h.fl,f1,f2,f3,h1,h2,n1,n2,h.rowH,h.rowN,h.chok,h.wts,h.vi,h.ni,h.chl,h.ll,h.lh,h.each,h.eachH,h.capN,h.capH⟩
theorem Play.mono {j:Nat} (h:Play Z B p cnt i w S) (hj:i<=j):Play Z B p cnt j w S:=
 ⟨h.on.mono hj,h.fuse,h.slots,h.len,h.blk,h.pq,h.pb,h.chq,h.own,h.fl,h.files,h.fa,h.fb,h.hl,h.ha,h.nl,h.na,h.rowH,h.rowN,h.chok,h.wts,Nat.le_trans h.vi hj,Nat.le_trans h.ni (Nat.mul_le_mul_left _ hj),Nat.le_trans h.chl hj,Nat.le_trans h.ll hj,Nat.le_trans h.lh hj,λx hx=>⟨(h.each x hx).1,Nat.le_trans (h.each x hx).2 (Nat.mul_le_mul_left _ hj)⟩,λx hx=>⟨(h.eachH x hx).1,Nat.le_trans (h.eachH x hx).2 (Nat.mul_le_mul_left _ hj)⟩,h.capN,h.capH⟩
def Step (Z:Prop) (B p cnt i:Nat) (S:PD) (w w':World):Prop:=∃S',Play Z B p cnt i w' S'/\((∀k,S'.D p k->S.D p k\/w.heap.size<=k)/\∀k,S'.A p k->S.A p k\/w.heap.size<=k)/\Upon (S.D p) w w'
theorem Play.next (h:Play Z B p cnt i w S) (hu:Upon (S.D p) w w') {j:Nat} {Q':Nat->Prop} {C':Chg} {L':List FF} {ch':List (List UInt8)} {wt':Bool} {an':Option Addr} {nc':Nat} {vc':Value} (hij:i<=j)
  (on:On B S.s S.d S.g S.cm w' Q' S.m S.ver S.next S.fs C' S.H j) (hq:∀k,Q' k->S.Q k\/w.heap.size<=k) (blk:Blk w' p 38 (PD.cells {S with Q:=Q',C:=C',L:=L',ch:=ch',wt:=wt',an:=an',nc:=nc',vc:=vc'}))
  (hv:∀k,vc'.ownBlock=some k->¬Q' k) (hv2:∀k,vc'.ownBlock=some k->S.vc.ownBlock=some k\/w.heap.size<=k) (own:w'.ownsRow B 9 1 vc' ch'.length (ch'.map nv))
  (nl:Lies w' an' (flatP L')) (na:Away B (PD.D {S with Q:=Q',C:=C',L:=L',ch:=ch',wt:=wt',an:=an',nc:=nc',vc:=vc'} p) w' an') (rowN:IsRow L' (nowF C' S.H)) (chok:ChOk C' ch') (wts:wt'=false↔∀nm,C' nm=none) (chl:ch'.length<=j) (ll:L'.length<=j) (each:∀x∈L',(1<=x.1.length/\x.1.length<=32)/\x.2.length<=1000*j) (capN:L'.length<=nc') (nf:∀k,Mem.blk an'=some k->S.A p k\/w.heap.size<=k):
  Step Z B p cnt j S w w':=by
 have hd:∀k,PD.D {S with Q:=Q',C:=C',L:=L',ch:=ch',wt:=wt',an:=an',nc:=nc',vc:=vc'} p k->S.D p k\/w.heap.size<=k:=λk hk=>by
  rcases hk with hk|rfl|hk
  ·exact(hq k hk).imp (λh1=>.inl h1) id
  ·exact .inl (.inr (.inl rfl))
  ·exact(hv2 k hk).imp (λh1=>.inr (.inr h1)) id
 obtain⟨f1,f2,f3⟩:=h.keepF hu hd;obtain⟨h1,h2⟩:=h.keepH hu hd;refine⟨{S with Q:=Q',C:=C',L:=L',ch:=ch',wt:=wt',an:=an',nc:=nc',vc:=vc'},?_,⟨hd,λk hk=>?_⟩,hu⟩
 rotate_left
 ·rcases hk with hk|hk|hk|hk|hk
  ·exact(hd k hk).imp (λh1=>.inl h1) id
  ·exact .inl (.inr (.inl hk))
  ·exact .inl (.inr (.inr (.inl hk)))
  ·exact .inl (.inr (.inr (.inr (.inl hk))))
  ·exact nf k hk
 have hm:=h.mono hij;exact⟨on,h.fuse,h.slots,h.len,blk,λhk=>(hq p hk).elim h.pq (λh4=>by have:=h.blk.lt;omega),h.pb,hv,own,h.fl,f1,f2,f3,h1,h2,nl,na,h.rowH,rowN,chok,wts,hm.vi,hm.ni,chl,ll,hm.lh,each,hm.eachH,capN,h.capH⟩
def PD.zero (s d g cm:Nat) (Q:Nat->Prop) (N:Nat):PD:=⟨s,d,g,cm,Q,D0 N,0,0,[],none',λ_=>none,[],[],[],false,none,0,[],none,0,none,0,.slice none 0 0⟩
theorem play_zero {Z:Prop} {B s d g cm N:Nat} {Q:Nat->Prop} {w:World} (hN:33<=N) (hp:Blk w p 38 #[.pointer (some ⟨s,0,none⟩),.pointer (some ⟨d,0,none⟩),.int .u64 0,.int .u32 0,.slice none 0 0,.slice none 0 0,.slice none 0 0,.slice none 0 0,.bool false]) (hon:On B s d g cm w Q (D0 N) 0 0 [] none' (λ_=>none) 0) (hq:¬Q p) (hb:B<=p):Play Z B p N 0 w (PD.zero s d g cm Q N):=
 ⟨hon,(λ_=>by show(-1:Int) <0;decide),slots_new N hN,d0_len N,hp,hq,hb,(λk hk=>(by cases hk)),World.ownsRow_nil w B 9 1,rfl,⟨.inl rfl,(λx hx=>(by cases hx))⟩,Away.none _ _ _,(λx hx=>(by cases hx)),.inl rfl,Away.none _ _ _,.inl rfl,Away.none _ _ _,isRow_none,isRow_none,⟨(λx hx=>(by cases hx)),(λx b hx=>(by cases hx))⟩,⟨(λ_ _=>rfl),(λ_=>rfl)⟩,Nat.zero_le _,Nat.zero_le _,Nat.zero_le _,Nat.zero_le _,Nat.zero_le _,(λx hx=>(by cases hx)),(λx hx=>(by cases hx)),Nat.le_refl _,Nat.le_refl _⟩
end Full
namespace RefF
open Go.RowKit Go.Deep Mem Crc Mani Full Go.Proofs.YtbfochdoeibofaaGreatDoor.Read
def boolRow (p:Nat->Bool) (n:Nat):Array Value:=((List.range n).map (λi=>Value.bool (p i))).toArray
theorem boolRow_at {p:Nat->Bool} {n i:Nat} (h:i<n): (boolRow p n)[i]? =some (.bool (p i)):=by
 unfold boolRow;rw[jt,List.getElem?_map,List.getElem?_range h]
 rfl
theorem boolRow_size (p:Nat->Bool) (n:Nat): (boolRow p n).size=n:=by unfold boolRow;simp
theorem boolRow_ext {p q:Nat->Bool} {n:Nat} (h:∀i,i<n->p i=q i):boolRow p n=boolRow q n:=by
 unfold boolRow;rw[List.map_congr_left (λi hi=>by rw[h i (List.mem_range.1 hi)])]
theorem boolRow_set {p q:Nat->Bool} {n j:Nat} (h:∀i,i<n->q i=(p i||decide (i=j))): (boolRow p n).setIfInBounds j (.bool true)=boolRow q n:=by
 apply Array.ext
 ·rw[Array.size_setIfInBounds,boolRow_size,boolRow_size]
 ·intro i h1 h2;rw[boolRow_size]at h2
  apply Option.some.inj
  rw[<-Array.getElem?_eq_getElem,<-Array.getElem?_eq_getElem,boolRow_at h2,Array.getElem?_setIfInBounds,h i h2]
  by_cases e:j=i
  ·subst e;rw[if_pos rfl,if_pos (by rw[boolRow_size];exact h2)]
   simp
  ·rw[if_neg e,boolRow_at h2];have:decide (i=j)=false:=jf (λe2=>e e2.symm);rw[this,Bool.or_false]
theorem boolRow_new (n:Nat):madeCells #[.bool false] n=boolRow (λ_=>false) n:=by
 apply Array.ext
 ·rw[boolRow_size];unfold madeCells
  simp
 ·intro i h1 h2;rw[boolRow_size]at h2
  apply Option.some.inj
  rw[<-Array.getElem?_eq_getElem,<-Array.getElem?_eq_getElem,boolRow_at h2];unfold madeCells
  simp[h2,Nat.mod_one]
theorem infoBool: (Tryz.prog.info? 4).map (λi=>(i.zero,i.size,i.bytes))=some (some (.bool false),1,1):=by kernel_rfl
def freeTo (fs:List Fil) (i:Nat):List Nat:=(List.range i).filter (λj=> !tkn fs j)
theorem freeTo_low (fs:List Fil):freeTo fs 32= []:=by
 unfold freeTo;refine List.filter_eq_nil_iff.2 (λj hj=>?_);have:=List.mem_range.1 hj;unfold Full.tkn
 simp[this]
theorem freeTo_succ (fs:List Fil) {i:Nat} (h:32<=i):freeTo fs (i+1)=freeTo fs i++(if decide (i∈bksL fs)=true then []else [i]):=by
 unfold freeTo;rw[List.range_succ,List.filter_append]
 congr 1
 unfold Full.tkn;have:decide (i<32)=false:=jf (by omega)
 by_cases e:i∈bksL fs <;> simp[this,e]
theorem freeTo_len (fs:List Fil) (i:Nat): (freeTo fs i).length<=i:=by
 unfold freeTo;exact Nat.le_trans (List.length_filter_le _ _) (by simp)
theorem bksL_succ {l:List Fil} {k:Nat} {x:Fil} (h:l[k]? =some x):bksL (l.take (k+1))=bksL (l.take k)++x.blocks:=flat_snoc Fil.blocks h
attribute [local go_sem] Oper.semAt_some
theorem free10_any (ver next:Nat) (a:Option Addr) (c:Nat) (l:List FR) (cnt:Nat) (w:World) (h:FilesIn w a l) (hl:l.length<=1000000) (hb:∀x∈l,x.f.blocks.length<=1000000/\∀i∈x.f.blocks,i<cnt) (hc:32<=cnt) (hc2:cnt<=65536):
  Calls Tryz.prog 18 #[.agg #[.int .u64 (ver:Int),.int .u32 (next:Int),.slice a l.length c],.int .i64 (cnt:Int)] w λe w'=>∃v,e=.returned v/\w'.ownsRow w.heap.size 3 1 v (freeB cnt (l.map FR.f)).length ((freeB cnt (l.map FR.f)).map iv)/\Below w.heap.size w w':=by
 obtain⟨n,hnl⟩:=jl l.length;obtain⟨fs,hfs⟩:=jl (l.map FR.f);rw[<-hnl]at hl⊢;rw[<-hfs]
 have hmk:∀w,(Instr.makeSlice 105 (.int .i64 (cnt:Int)) (.int .i64 (cnt:Int))).run Tryz.prog w=.ok (.slice (some ⟨w.heap.size,0,none⟩) cnt cnt) (w.alloc (.cells (boolRow (λ_=>false) cnt) 4)):=λw=>by
  rw[<-boolRow_new];exact run_make_row' 105 4 (.bool false) 1 Tryz.underlying105 infoBool rfl .i64 .i64 cnt (by omega) (by omega) w
 obtain⟨W1,hW1⟩:=jl (w.alloc (.cells #[.int .u64 (ver:Int),.int .u32 (next:Int),.slice a n c] 34));have hB1:Below w.heap.size w W1:=by rw[hW1];exact(Below.refl _ w).alloc jn _
 have hbx1:Blk W1 w.heap.size 34 #[.int .u64 (ver:Int),.int .u32 (next:Int),.slice a n c]:=by rw[hW1];exact Blk.new w _ _
 obtain⟨xb,hxb⟩:=jl w.heap.size;rw[<-hxb]at hbx1;obtain⟨W2,hW2⟩:=jl (W1.alloc (.cells (boolRow (λ_=>false) cnt) 4));obtain⟨tb,htb⟩:=jl (w.heap.size+1);have hs1:W1.heap.size=w.heap.size+1:=by rw[hW1,World.size_alloc]
 have hbt2:Blk W2 tb 4 (boolRow (λi=>decide (i∈bksL (fs.take 0))) cnt):=by
  rw[hW2,htb,<-hs1];have:=Blk.new W1 4 (boolRow (λ_=>false) cnt)
  rwa [boolRow_ext (q:=λi=>decide (i∈bksL (fs.take 0))) (λi _=>by simp[Mani.bksL])]at this
 have hB2:Below w.heap.size w W2:=by rw[hW2];exact hB1.alloc hB1.size _
 have hbx2:Blk W2 xb 34 #[.int .u64 (ver:Int),.int .u32 (next:Int),.slice a n c]:=by rw[hW2];exact hbx1.alloc _
 have htl:w.heap.size<=tb:=by rw[htb];exact Nat.le_succ _
 have m2:=hbx2.cell 2
 simp at m2
 have HF:=jq h;have HB:=jq hb;have HB2:=jq hB2;have HBX2:=jq hbx2;have HBT2:=jq hbt2;have HNL:=jq hnl;have HFS:=jq hfs;have HTL:=jq htl;have hm2: (W1.alloc (.cells (boolRow (λ_=>false) cnt) 4)).cell? ⟨xb,2,none⟩=some (.slice a n c):=by rw[<-hW2];exact m2
 have HXB:=jq hxb;clear h hb hB1 hbx1 hB2 hbx2 hbt2 hnl hfs htl m2 hs1
 go_enter Tryz.func18,Tryz.ntmps18
 go_wp2_with fail
 rw[<-hW1,<-hW2,<-htb,<-hxb];clear hW1 htb hW2 hxb hmk hm2
 go_loopw[15] (λi wr=>∃k:Nat,k<=n/\i=.int .i64 (k:Int)/\Hid (Below w.heap.size w wr)/\Hid (Blk wr xb 34 #[.int .u64 (ver:Int),.int .u32 (next:Int),.slice a n c])/\Hid (Blk wr tb 4 (boolRow (λi=>decide (i∈bksL (fs.take k))) cnt))) (λi _=>n-(intOf i).toNat)
 case atStart=>exact⟨0,Nat.zero_le _,rfl,HB2,HBX2,HBT2⟩
 case round=>
  obtain⟨k,hk,rfl,hBr,hXr,hTr⟩:=hrel
  by_cases hkn:k<n
  ·have hkd:decide ((k:Int) <(n:Int))=true:=jd (by omega);obtain⟨x,hx⟩:∃x,l[k]? =some x:=⟨l[k]'(by rw[<-HNL.out];exact hkn),jg _⟩;obtain⟨g,o,rfl,c0,c1,c2,c3⟩:=(HF.out.later hBr.out).cells hx;have hxm:=jM hx;obtain⟨hLb,hcb⟩:=HF.out.blocks x hxm;obtain⟨hbl,hbi⟩:=HB.out x hxm;obtain⟨⟨nm,id,sz,bl⟩,ba,bc⟩:=x;dsimp only at c0 c1 c2 c3 hLb hcb hbl hbi;have hst:bksL (fs.take (k+1))=bksL (fs.take k)++bl:=bksL_succ (x:=⟨nm,id,sz,bl⟩) (by rw[HFS.out,List.getElem?_map,hx];rfl);have hx2:=hXr.out.cell 2
   simp at hx2
   obtain⟨bn,hbn⟩:=jl bl.length;rw[<-hbn]at c3 hcb hbl;have HST:=jq hst;have HLB:=jq hLb;have HBI:=jq hbi;have HBN:=jq hbn;have HX:=jq hx;have HC3:=jq c3;clear hst hLb hbi hbn hx c0 c1 c2 hxm
   go_wp2_with fail
   go_loopw[25] (λi wq=>∃j:Nat,j<=bn/\i=.int .i64 (j:Int)/\Hid (Below w.heap.size w wq)/\Hid (Blk wq xb 34 #[.int .u64 (ver:Int),.int .u32 (next:Int),.slice (some ⟨g,o,none⟩) n c])/\Hid (Blk wq tb 4 (boolRow (λi=>decide (i∈bksL (fs.take k)++bl.take j)) cnt))) (λi _=>bn-(intOf i).toNat)
   case atStart=>exact⟨0,Nat.zero_le _,rfl,hBr,hXr,jq (by rw[boolRow_ext (q:=λi=>decide (i∈bksL (fs.take k))) (λi _=>by simp)];exact hTr.out)⟩
   case round=>
    obtain⟨j,hj,rfl,hBq,hXq,hTq⟩:=hrel
    by_cases hjn:j<bn
    ·have hjd:decide ((j:Int) <(bn:Int))=true:=jd (by omega);obtain⟨y,hy⟩:∃y,bl[j]? =some y:=⟨bl[j]'(by rw[<-HBN.out];exact hjn),jg _⟩;have hyl:=HBI.out y (jM hy);obtain⟨g2,o2,rfl,d0⟩:=lies_at (HLB.out.later hBq.out) (k:=j) (u:=iv y) (by rw[List.getElem?_map,hy];rfl);obtain⟨g',o',e',_,_,_,d3⟩:=(HF.out.later hBq.out).cells HX.out;cases e';dsimp only at d3;rw[<-HBN.out]at d3;unfold Mani.iv at d0;have q2:=hXq.out.cell 2
     simp at q2
     have hset:=hTq.out.set y (.bool true)
     rw[boolRow_set (q:=λi=>decide (i∈bksL (fs.take k)++bl.take (j+1))) (λi _=>by
      rw[List.take_add_one,hy]
      simp[Bool.or_assoc])]at hset
     have hfz:=hTq.out.frozen y;have hcy:∃v,(wr.cell? ⟨tb,y,none⟩)=some (.bool v):=⟨_,(hTq.out.cell y).trans (boolRow_at hyl)⟩;obtain⟨tv,hcy⟩:=hcy;have HSET:=jq hset;have hBn:=hBq.out.setCell (p:=⟨tb,y,none⟩) HTL.out (.bool true);have hXn:=hXq.out.far (p:=⟨tb,y,none⟩) (hXq.out.ne hTq.out (by decide)) (.bool true);have HBN2:=jq hBn;have HXN:=jq hXn;clear hset hy hBn hXn
     go_wp2_with fail
     exact⟨⟨j+1,hjn,by simp,HBN2,HXN,HSET⟩,by simp[intOf];omega⟩
    ·obtain rfl:bn=j:=by omega
     have hjd:decide ((bn:Int) <(bn:Int))=false:=jf (by omega)
     go_wp2_with fail
     exact⟨⟨k+1,hkn,by simp,hBq,hXq,jq (by
      have:=hTq.out;rw[List.take_of_length_le (l:=bl) (by rw[HBN.out];exact Nat.le_refl _),<-HST.out]at this;exact this)⟩,by simp[intOf];omega⟩
  ·obtain rfl:n=k:=by omega
   have hkd:decide ((n:Int) <(n:Int))=false:=jf (by omega);have hT:=hTr.out;rw[List.take_of_length_le (l:=fs) (by rw[HFS.out,jP,<-HNL.out];exact Nat.le_refl _)]at hT;have HT:=jq (hT.alloc (.cells #[] 3));have HB3:=jq (hBr.out.alloc hBr.out.size (.cells #[] 3))
   have HO3:Hid ((wr.alloc (.cells #[] 3)).ownsRow w.heap.size 3 1 (.slice (some ⟨wr.heap.size,0,none⟩) 0 0) (freeTo fs 32).length ((freeTo fs 32).map iv)):=jq (by
    rw[freeTo_low];exact World.ownsRow_lit wr #[] 0 hBr.out.size (by decide) rfl)
   clear hT hBr hXr hTr
   go_wp2_with fail
   go_loopw[8,9] (λo i wr=>∃k:Nat,32<=k/\k<=cnt/\i=.int .i64 (k:Int)/\Hid (Below w.heap.size w wr)/\Hid (Blk wr tb 4 (boolRow (λi=>decide (i∈bksL fs)) cnt))/\Hid (wr.ownsRow w.heap.size 3 1 o (freeTo fs k).length ((freeTo fs k).map iv))) (λ_ i _=>cnt-(intOf i).toNat)
   case atStart=>exact⟨32,Nat.le_refl _,hc,rfl,HB3,HT,HO3⟩
   case round=>
    obtain⟨k,hk32,hk,rfl,hBq,hTq,hOq⟩:=hrel
    by_cases hkn2:k<cnt
    ·have hkd:decide ((k:Int) <(cnt:Int))=true:=jd (by omega);obtain⟨tv,htv⟩:=jl (decide (k∈bksL fs));have hcy:wr.cell? ⟨tb,k,none⟩=some (.bool tv):=by rw[htv];exact(hTq.out.cell k).trans (boolRow_at hkn2)
     have hsucc:=freeTo_succ fs hk32;rw[<-htv]at hsucc;cases tv
     ·obtain⟨v',w',hr,ho,hg⟩:=append_int wr 51 _ _ hOq.out k (by have:=freeTo_len fs k;omega) hBq.out.size;have hB':Below w.heap.size w w':=hBq.out.grown hg hBq.out.size (λy hy=>(hOq.out.lt y hy).1);have hT':=hTq.out.upon (Upon.of_grown hg (λq hq=>.inl hq)) (own_ne_blk hOq.out hTq.out (by decide));have hs2:freeTo fs (k+1)=freeTo fs k++ [k]:=hsucc;rw[<-hs2]at ho;unfold Mani.iv at hr;have HO':=jq ho;have HB':=jq hB';have HT':=jq hT';clear hsucc hs2 ho hg hB' hT' htv
      go_wp2_with (first|(at_builtin;refine Lib.wpList_append_run _ rfl _ _ _ _ rfl _ _ rfl rfl _ _ hr ?_))
      exact⟨⟨k+1,by omega,hkn2,by simp,HB',HT',HO'⟩,by simp[intOf];omega⟩
     ·have hs2:freeTo fs (k+1)=freeTo fs k:=by rw[hsucc];simp
      have HS2:=jq hs2;clear hsucc hs2 htv
      go_wp2_with fail
      exact⟨⟨k+1,by omega,hkn2,by simp,hBq,hTq,jq (by rw[HS2.out];exact hOq.out)⟩,by simp[intOf];omega⟩
    ·obtain rfl:cnt=k:=by omega
     have hkd:decide ((cnt:Int) <(cnt:Int))=false:=jf (by omega)
     go_wp2_with fail
     go_ret
     exact⟨_,rfl,hOq.out,hBq.out⟩
end RefF
namespace RefF
open Go.RowKit Go.Deep Mem Crc Varint Mani
theorem num_step {W w w2:World} {v v2:Value} {bs ys:List UInt8} (ty:TypeId) (h:Grow W v bs w) (ho:OwnB w2 w.heap.size v2 ys) (hb:Below w.heap.size w w2) (hs:bs.length<=1000000/\ys.length<=1000000):
  ∃k a2 c2 v3 w3,v2=.slice a2 k c2/\(Builtin.append_ #[22,22] ty #[v,.slice a2 k c2]).run Tryz.prog w2=.ok v3 w3/\Grow W v3 (bs++ys) w3/\Upon (λq=>v.ownBlock=some q) w w3:=by
 obtain⟨a2,c2,rfl,_,hL2,_,_⟩:=own_shape ho;have hsz:=h.below.size;obtain⟨v3,w3,hr3,hO3,hg3⟩:=run_append_bytes w2 ty v bs (own_later h.own hb) a2 c2 ys hL2 (by omega) (Nat.le_trans hsz hb.size);have hu3:Upon (λq=>v.ownBlock=some q) w w3:=(Upon.of_below hb).trans (Upon.of_grown (P:=λq=>v.ownBlock=some q) hg3 (λq hq=>.inl hq)) (λq hq=>.inl hq);exact⟨_,a2,c2,v3,w3,rfl,hr3,h.step hO3 hu3,hu3⟩
theorem conv_name (nm:List UInt8) (s:ByteArray) (hs:sv nm=.string s) (w:World):∃V cap,(convert 9 22 (.string s)).run Tryz.prog w=.ok (.slice (some ⟨w.heap.size,0,none⟩) s.size cap) V/\Lies V (some ⟨w.heap.size,0,none⟩) (nm.map bv)/\Below w.heap.size w V:=by
 refine⟨_,_,run_bytes_of_string w 9 22 5 s Tryz.underlying9 Tryz.underlying22 Tryz.underlying5,?_,(Below.refl _ w).drew.alloc jn _⟩;unfold Mem.sv at hs;injection hs with hs;subst hs;have hl:=Full.new_lies2 w.drew 5 (bytesRow ⟨nm.toArray⟩ (grownCap w (ByteArray.size ⟨nm.toArray⟩) 0 5)) ((bytesRow ⟨nm.toArray⟩ (grownCap w (ByteArray.size ⟨nm.toArray⟩) 0 5)).size,(bytesRow ⟨nm.toArray⟩ (grownCap w (ByteArray.size ⟨nm.toArray⟩) 0 5)).size+1);refine .inr ⟨w.heap.size,0,rfl,by show w.heap.size<(w.heap.push _).size;simp,λj u hu=>?_⟩
 obtain⟨g,o,e,hc⟩:=lies_at hl (k:=j) (u:=u) (by
  have hj:=(jS.1 hu).1;unfold bytesRow;rw[Array.toList_append,List.getElem?_append_left (by simpa using hj),<-hu,Array.toList_map]
  rfl)
 injection e with e;injection e with e1 e2;subst e2;rw[show g=w.heap.size from e1.symm]at hc;exact hc
attribute [local go_sem] Oper.semAt_some
theorem body09_any (ver next:Nat) (a:Option Addr) (c:Nat) (l:List FR) (w:World) (h:FilesIn w a l) (hv:ver<18446744073709551616) (hn:next<4294967296) (hf:∀x∈l,x.f.fits) (hm: (bodyL ver next (l.map FR.f)).length<=900000) (hl:l.length<=1000000):
  Calls Tryz.prog 130 #[.agg #[.int .u64 (ver:Int),.int .u32 (next:Int),.slice a l.length c]] w λe w'=>∃v,e=.returned v/\OwnB w' w.heap.size v (bodyL ver next (l.map FR.f))/\Below w.heap.size w w':=by
 obtain⟨n,hnl⟩:=jl l.length;rw[<-hnl]at hl⊢;obtain⟨W,hW⟩:=jl (w.alloc (.cells #[.int .u64 (ver:Int),.int .u32 (next:Int),.slice a n c] 34));have hBW:Below w.heap.size w W:=by rw[hW];exact(Below.refl _ w).alloc jn _
 have hbx:Blk W w.heap.size 34 #[.int .u64 (ver:Int),.int .u32 (next:Int),.slice a n c]:=by rw[hW];exact Blk.new w _ _
 obtain⟨xb,hxb⟩:=jl w.heap.size;rw[<-hxb]at hbx;have HF:=jq (h.later hBW);have HBX:=jq hbx;have HBW:=jq hBW;have HNL:=jq hnl;have HFIT:=jq hf;have HM:=jq hm;have HXB:=jq hxb;have hm0:=hbx.cell 0
 simp at hm0
 have hvl: (vput ver).length<=10:=vput_length 9 ver (by omega);have hnl2: (vput next).length<=10:=vput_length 9 next (by omega);have HN1:=jq (num03_any ver hv W);clear h hbx hBW hnl hf hm
 go_enter Tryz.func130,Tryz.ntmps130
 go_wp2_with fail
 rw[<-hW,<-hxb];clear hW hxb;refine HN1.out.mono ?_;rintro e w1 ⟨v1,rfl,hO1,hB1⟩;have hbW1:Below w.heap.size W w1:=hB1.mono HBW.out.size;have hg1:Grow W v1 (vput ver) w1:=⟨hO1,hB1⟩;have hb1:=HBX.out.below hB1 HBX.out.lt;have m1:=hb1.cell 1
 simp at m1
 have HG1:=jq hg1;have HB1:=jq hb1;have HN2:=jq (num03_any next (by omega) w1);clear hO1 hB1 hbW1 hg1 hb1 hm0 HN1
 go_wp2_with fail
 refine HN2.out.mono ?_;rintro e w2 ⟨v2,rfl,hO2,hB2⟩;obtain⟨k2,a2,c2,v3,w3,rfl,hr3,hg3,hu3⟩:=num_step 22 HG1.out hO2 hB2 ⟨by omega,by omega⟩;have hb3:=HG1.out.box hu3 HB1.out (by decide);have m2:=hb3.cell 2
 simp at m2
 have HG3:=jq hg3;have HB3:=jq hb3;have HN3:=jq (num03_any n (by omega) w3);clear hO2 hB2 hg3 hu3 hb3 m1 HN2
 go_wp2_with (first|(at_builtin;refine Lib.wpList_append_run _ rfl _ _ _ _ rfl _ _ rfl rfl _ _ hr3 ?_))
 refine HN3.out.mono ?_;rintro e w4 ⟨v4,rfl,hO4,hB4⟩;obtain⟨pre,hpre⟩:=jl (vput ver++vput next++vput n);obtain⟨k5,a5,c5,v5,w5,rfl,hr5,hg5,hu5⟩:=num_step 22 HG3.out hO4 hB4 ⟨by rw[jL];omega,by have:=vput_length 9 n (by omega);omega⟩;rw[<-hpre]at hg5;have hb5:=HG3.out.box hu5 HB3.out (by decide);have m5:=hb5.cell 2
 simp at m5
 have HG5:=jq hg5
 have htot:∀k,(pre++((l.map FR.f).take k).flatMap filL).length<=900000:=λk=>by
  have h1:=HM.out;have h2:=flat_le filL (l.map FR.f) k;have e:bodyL ver next (l.map FR.f)=pre++(l.map FR.f).flatMap filL:=by rw[hpre,HNL.out];unfold bodyL;simp
  rw[e,jL]at h1;rw[jL]
  omega
 have HTOT:=jq htot;have HPRE:=jq hpre;clear hO4 hB4 hg5 hu5 hb5 m2 hpre htot HG1 HG3 HB1 HB3 HN3
 go_wp2_with (first|(at_builtin;refine Lib.wpList_append_run _ rfl _ _ _ _ rfl _ _ rfl rfl _ _ hr5 ?_))
 go_loopw[3,26] (λx i wr=>∃k:Nat,k<=n/\i=.int .i64 (k:Int)/\Hid (Grow W x (pre++((l.map FR.f).take k).flatMap filL) wr)) (λ_ i _=>n-(intOf i).toNat)
 case atStart=>exact⟨0,Nat.zero_le _,rfl,jq (by simpa using HG5.out)⟩
 case round=>
  clear hr5;obtain⟨k,hk,rfl,hg⟩:=hrel
  by_cases hlt:k<n
  ·have hkd:decide ((k:Int) <(n:Int))=true:=jd (by omega);obtain⟨x,hx⟩:∃x,l[k]? =some x:=⟨l[k]'(by rw[<-HNL.out];exact hlt),jg _⟩;obtain⟨g,o,rfl,c0,c1,c2,c3⟩:=(HF.out.later hg.out.below).cells hx;have hxm:=jM hx;obtain⟨hLb,hcb⟩:=HF.out.blocks x hxm;have hfit:=HFIT.out x hxm;obtain⟨⟨nm,id,sz,bl⟩,ba,bc⟩:=x;dsimp only at c0 c1 c2 c3 hLb hcb hfit;obtain⟨cur,hcur⟩:=jl (pre++((l.map FR.f).take k).flatMap filL)
   have hnext:pre++((l.map FR.f).take (k+1)).flatMap filL=cur++filL ⟨nm,id,sz,bl⟩:=by
    rw[hcur,flat_snoc filL (x:=⟨nm,id,sz,bl⟩) (by simp[hx]),List.append_assoc]
   have htk:=HTOT.out (k+1);rw[hnext]at htk;have hg:=hg.out;rw[<-hcur]at hg;have HNEXT:=jq hnext;have HG:=jq hg;have HLB:=jq hLb;obtain⟨hid,hsz,hbl⟩:=hfit;dsimp only at hid hsz hbl;have HBL:=jq hbl
   have hl3:cur.length+(vput nm.length).length+nm.length+(vput id).length+(vput sz).length+(blocksL bl).length<=900000:=by
    unfold filL at htk;simp only[jL]at htk
    omega
   have hbx2:=(HBX.out.below hg.below HBX.out.lt).cell 2
   simp at hbx2
   obtain⟨bn,hbn⟩:=jl bl.length;rw[<-hbn]at c3 hcb;unfold iv at c2;obtain⟨sb,hsb⟩:∃sb:ByteArray,sv nm=.string sb:=⟨_,rfl⟩
   have hsz2:sb.size=nm.length:=by
    have e:sb=⟨nm.toArray⟩:=by unfold sv at hsb;injection hsb with hsb;exact hsb.symm
    rw[e];show nm.toArray.size=_
    simp
   rw[hsb]at c0;have hsb9:sb.size<=1000000:=by omega
   have hbn9:bn<=1000000:=by have:=blocksL_ge bl;omega
   have hw64:IntKind.u64.wrap (sb.size:Int)=(sb.size:Int):=by rw[IntKind.wrap_u64];omega
   have hws:IntKind.u64.wrap (sz:Int)=(sz:Int):=by rw[IntKind.wrap_u64];omega
   obtain⟨fb,hfb⟩:=jl wr.heap.size;obtain⟨WB,hWB⟩:=jl (wr.alloc (.cells #[.string sb,.int .u32 (id:Int),.int .i64 (sz:Int),.slice ba bn bc] 96));have hbB:Blk WB fb 96 #[.string sb,.int .u32 (id:Int),.int .i64 (sz:Int),.slice ba bn bc]:=by rw[hWB,hfb];exact Blk.new wr _ _
   have hGB:Grow W u3 cur WB:=by rw[hWB];exact⟨hg.own.alloc _,hg.below.alloc hg.below.size _⟩
   have f0:=hbB.cell 0
   simp at f0
   have HSB:=jq hsb;have HSZ:=jq hsz2;have HBN:=jq hbn;have HGB:=jq hGB;have HBB:=jq hbB;have HNA:=jq (num03_any sb.size (by omega) WB);clear hnext hg hcur htk hx hxm hLb hbl hsb hsz2 hbn hGB hbB
   go_wp2_with fail
   rw[<-hWB,<-hfb];clear hWB hfb c0 c1 c2 c3 hbx2
   go_wp2_with fail
   refine HNA.out.mono ?_;rintro e w6 ⟨v6,rfl,hO6,hB6⟩;obtain⟨k7,a7,c7,v7,w7,rfl,hr7,hg7,hu7⟩:=num_step 22 HGB.out hO6 hB6 ⟨by omega,by rw[HSZ.out];omega⟩;have hb7:=HGB.out.box hu7 HBB.out (by decide);have f0:=hb7.cell 0
   simp at f0
   obtain⟨V8,cap8,hcv,hL8,hB8⟩:=conv_name nm sb HSB.out w7;have hg8:Grow W v7 (cur++vput sb.size) V8:=⟨own_later hg7.own hB8,hg7.below.trans (hB8.mono hg7.below.size)⟩;obtain⟨v9,w9,hr9,hO9,hgr9⟩:=run_append_bytes V8 22 _ _ hg8.own (some ⟨w7.heap.size,0,none⟩) cap8 nm hL8 (by rw[jL];rw[HSZ.out]at *;omega) hg8.below.size;rw[<-HSZ.out]at hr9;have hu9:Upon (λq=>v7.ownBlock=some q) V8 w9:=Upon.of_grown hgr9 (λq hq=>.inl hq);have hg9:Grow W v9 (cur++vput sb.size++nm) w9:=hg8.step hO9 hu9;have hb8:=hb7.below hB8 hb7.lt;have hb9:=hg8.box hu9 hb8 (by decide);have f1:=hb9.cell 1
   simp at f1
   have HG9:=jq hg9;have HB9:=jq hb9;have hlen9: (cur++vput sb.size++nm).length<=900000:=by rw[HSZ.out];simp only[jL];omega
   have HNB:=jq (num03_any id (by omega) w9);clear hO6 hB6 hg7 hu7 hb7 hL8 hB8 hg8 hO9 hgr9 hu9 hg9 hb8 hb9 HGB HBB HNA
   go_wp2_with (first|(at_builtin;refine Lib.wpList_append_run _ rfl _ _ _ _ rfl _ _ rfl rfl _ _ hr7 ?_)|(at_builtin;refine Lib.wpList_append_run _ rfl _ _ _ _ rfl _ _ rfl rfl _ _ hr9 ?_))
   refine HNB.out.mono ?_;rintro e w10 ⟨v10,rfl,hO10,hB10⟩;obtain⟨k11,a11,c11,v11,w11,rfl,hr11,hg11,hu11⟩:=num_step 22 HG9.out hO10 hB10 ⟨by omega,by omega⟩;have hb11:=HG9.out.box hu11 HB9.out (by decide);have f2:=hb11.cell 2
   simp at f2
   have HG11:=jq hg11;have HB11:=jq hb11;have hlen11: (cur++vput sb.size++nm++vput id).length<=900000:=by rw[HSZ.out];simp only[jL];omega
   have HNC:=jq (num03_any sz (by omega) w11);clear hO10 hB10 hg11 hu11 hb11 hr7 hr9 hcv HG9 HB9 HNB f1
   go_wp2_with (first|(at_builtin;refine Lib.wpList_append_run _ rfl _ _ _ _ rfl _ _ rfl rfl _ _ hr11 ?_))
   refine HNC.out.mono ?_;rintro e w12 ⟨v12,rfl,hO12,hB12⟩;obtain⟨k13,a13,c13,v13,w13,rfl,hr13,hg13,hu13⟩:=num_step 22 HG11.out hO12 hB12 ⟨by omega,by omega⟩;have hb13:=HG11.out.box hu13 HB11.out (by decide);have f3:=hb13.cell 3
   simp at f3
   obtain⟨cur2,hcur2⟩:=jl (cur++vput sb.size++nm++vput id++vput sz);rw[<-hcur2]at hg13;have HG13:=jq hg13;have HB13:=jq hb13
   have hlen13:∀j,(cur2++blocksL (bl.take j)).length<=900000:=λj=>by
    have:=flat_le vput bl j;unfold blocksL;rw[hcur2,HSZ.out];simp only[jL];unfold blocksL at hl3
    omega
   have HLEN:=jq hlen13;have HCUR2:=jq hcur2;clear hO12 hB12 hg13 hu13 hb13 hcur2 hlen13 hlen9 hlen11 HG11 HB11 HNC hl3 f2 hr11
   go_wp2_with (first|(at_builtin;refine Lib.wpList_append_run _ rfl _ _ _ _ rfl _ _ rfl rfl _ _ hr13 ?_))
   go_loopw[3,61] (λy i wr=>∃j:Nat,j<=bn/\i=.int .i64 (j:Int)/\Hid (Grow W y (cur2++blocksL (bl.take j)) wr)/\Hid (Blk wr fb 96 #[.string sb,.int .u32 (id:Int),.int .i64 (sz:Int),.slice ba bn bc])) (λ_ i _=>bn-(intOf i).toNat)
   case atStart=>exact⟨0,Nat.zero_le _,rfl,jq (by simpa[blocksL]using HG13.out),HB13⟩
   case round=>
    clear hr13 f3;obtain⟨j,hj,rfl,HGJ,HBJ⟩:=hrel
    by_cases hjlt:j<bn
    ·have hjd:decide ((j:Int) <(bn:Int))=true:=jd (by omega);obtain⟨q,hq⟩:∃q,bl[j]? =some q:=⟨bl[j]'(by rw[<-HBN.out];exact hjlt),jg _⟩;have hq32:=HBL.out q (jM hq);obtain⟨bg,bo,rfl,cq⟩:=lies_at (HLB.out.later HGJ.out.below) (k:=j) (u:=.int .i64 (q:Int)) (by simp[hq,iv]);have hq1:=HLEN.out j;have HNQ:Hid (cur2++blocksL (bl.take (j+1))=(cur2++blocksL (bl.take j))++vput q):=jq (by unfold blocksL;rw[flat_snoc vput hq,List.append_assoc]);have f3:=HBJ.out.cell 3
     simp at f3
     have hwq:IntKind.u64.wrap (q:Int)=(q:Int):=by rw[IntKind.wrap_u64];omega
     have HNQQ:=jq (num03_any q (by omega) wr);clear hq
     go_wp2_with fail
     refine HNQQ.out.mono ?_;rintro e w14 ⟨v14,rfl,hO14,hB14⟩;obtain⟨k15,a15,c15,v15,w15,rfl,hr15,hg15,hu15⟩:=num_step 22 HGJ.out hO14 hB14 ⟨by omega,by have:=vput_length 9 q (by omega);omega⟩;have HB15:=jq (HGJ.out.box hu15 HBJ.out (by decide));have HG15:=jq hg15;clear hO14 hB14 hg15 hu15 cq f3 hq1 HNQQ
     go_wp2_with (first|(at_builtin;refine Lib.wpList_append_run _ rfl _ _ _ _ rfl _ _ rfl rfl _ _ hr15 ?_))
     go_roundw
     case rel=>exact⟨j+1,Nat.succ_le_of_lt hjlt,by simp,jq (by rw[HNQ.out];exact HG15.out),HB15⟩
     case measure=>simp[intOf];omega
    ·obtain rfl:j=bn:=by omega
     have hjd:decide ((j:Int) <(j:Int))=false:=jf (by omega);have htk:bl.take j=bl:=by rw[HBN.out,List.take_length]
     have hfin:Grow W u3 (pre++((l.map FR.f).take (k+1)).flatMap filL) wr:=by
      rw[HNEXT.out];have h1:=HGJ.out;rw[htk,HCUR2.out,HSZ.out]at h1;unfold filL
      simpa only[List.append_assoc]using h1
     have HFIN:=jq hfin;clear hfin htk hjlt hj
     go_wp2_with fail
     go_roundw
     case rel=>exact⟨k+1,Nat.succ_le_of_lt hlt,by simp,HFIN⟩
     case measure=>simp[intOf];omega
  ·obtain rfl:k=n:=by omega
   have hkd:decide ((k:Int) <(k:Int))=false:=jf (by omega);have hg:=hg.out;have htk: (l.map FR.f).take k=l.map FR.f:=by rw[jW (by rw[jP,<-HNL.out];exact Nat.le_refl _)]
   rw[htk]at hg;have HG:=jq hg;clear hg htk hlt hk
   go_wp2_with fail
   go_ret
   refine⟨_,rfl,?_,HBW.out.trans (HG.out.below.mono HBW.out.size)⟩;have h1:=own_mono HG.out.own HBW.out.size;have e:bodyL ver next (l.map FR.f)=pre++(l.map FR.f).flatMap filL:=by rw[HPRE.out,HNL.out];unfold bodyL;simp
   unfold OwnB;rw[e];exact h1
end RefF
namespace RefF
open Go.RowKit Go.Deep Mem Crc Mani Full
open Store (nv)
theorem geq_str (t:TypeId) (a b:ByteArray):binOp .geq t (.string a) (.string b)=pure (.bool (!Op.bytesLess a.toList b.toList)):=by simp[binOp,Op.stringOp]
theorem less_lt {x y:List UInt8} {sx sy:ByteArray} (hx:sv x=.string sx) (hy:sv y=.string sy):Op.bytesLess sx.toList sy.toList=decide (x<y):=by
 unfold Mem.sv at hx hy;injection hx with hx;injection hy with hy;subst hx hy;rw[Lib.toList_data,Lib.toList_data,bytesLess_eq]
theorem size_sv {x:List UInt8} {sx:ByteArray} (hx:sv x=.string sx):sx.size=x.length:=by
 unfold Mem.sv at hx;injection hx with hx;subst hx;show x.toArray.size=_
 simp
theorem slice_high (a:Option Addr) (len cap m:Nat) (h1:m<=cap) (W:World): (Instr.sliceAt 51 (.slice a len cap) none (some (.int .i64 (m:Int))) none).run Tryz.prog W=.ok (.slice a m cap) W:=by
 have hel:Tryz.prog.elem 51=3:=by kernel_rfl
 have hu:Tryz.prog.underlying 51=some (.slice (Tryz.prog.elem 51)):=by rw[hel];exact Tryz.underlying51
 have hsz:∀W:World,(sizeOf 3).run Tryz.prog W=.ok 1 W:=λW=>by kernel_rfl
 rw[run_sliceAt_slice W _ _ _ _ _ hu,run_slice_h W _ _ _ _ hu .i64 (m:Int) (by omega) (by omega),hel,hsz]
 cases a with
 |none=>simp[Result.andThen,sliced]
 |some p=>
  have:p.add 0=p:=by unfold Addr.add;cases p;split <;> simp_all
  simp[Result.andThen,sliced,this]
attribute [local go_sem] geq_str
attribute [local go_sem] Oper.semAt_some
theorem file09_yes (ver next:Nat) (a:Option Addr) (c:Nat) (l:List FR) (i:Nat) (w:World) (h:FilesIn w a l) (hM:MOk next none [] [] (l.map FR.f)) (hi:i<l.length) (hl:l.length<=1000000) (hb:∀x∈l,x.f.blocks.length<=1000000/\x.f.size<=1000000000):
  Calls Tryz.prog 135 #[.agg #[.int .u64 (ver:Int),.int .u32 (next:Int),.slice a l.length c],.int .i64 (i:Int)] w λe w'=>e=.returned (.bool true)/\Below w.heap.size w w':=by
 obtain⟨n,hnl⟩:=jl l.length;obtain⟨x,hx⟩:∃x,l[i]? =some x:=⟨l[i]'hi,jg _⟩;rw[<-hnl]at hl hi⊢;obtain⟨fs,hfs⟩:=jl (l.map FR.f);rw[<-hfs]at hM;have hxm:=jM hx;have hxf:fs[i]? =some x.f:=by rw[hfs,List.getElem?_map,hx];rfl
 obtain⟨n1,n2,hid,hmany,hblk⟩:=hM.each x.f (jM hxf);obtain⟨hLb,hcb⟩:=h.blocks x hxm;obtain⟨hbl,hsz⟩:=hb x hxm;obtain⟨W1,hW1⟩:=jl (w.alloc (.cells #[.int .u64 (ver:Int),.int .u32 (next:Int),.slice a n c] 34));obtain⟨xb,hxb⟩:=jl w.heap.size;have hB1:Below w.heap.size w W1:=by rw[hW1];exact(Below.refl _ w).alloc jn _
 have hbx1:Blk W1 xb 34 #[.int .u64 (ver:Int),.int .u32 (next:Int),.slice a n c]:=by rw[hW1,hxb];exact Blk.new w _ _
 have hLb1:=hLb.later hB1;have hF1:=h.later hB1;obtain⟨g,o,rfl,c0,c1,c2,c3⟩:=hF1.cells hx;obtain⟨⟨nm,id,sz,bl⟩,ba,bc⟩:=x;dsimp only at c0 c1 c2 c3 hLb1 hcb hbl hsz n1 n2 hid hmany hblk;unfold iv at c2;obtain⟨bn,hbn⟩:=jl bl.length;obtain⟨sb,hsb⟩:∃sb:ByteArray,sv nm=.string sb:=⟨_,rfl⟩;have hss:=size_sv hsb;rw[hsb]at c0;rw[<-hbn]at c3 hcb hbl hmany;rw[<-hss]at n1 n2;obtain⟨W2,hW2⟩:=jl (W1.alloc (.cells #[.string sb,.int .u32 (id:Int),.int .i64 (sz:Int),.slice ba bn bc] 96));obtain⟨fb,hfb⟩:=jl (w.heap.size+1);have hs1:W1.heap.size=w.heap.size+1:=by rw[hW1,World.size_alloc]
 have hB2:Below W1.heap.size W1 W2:=by rw[hW2];exact(Below.refl _ W1).alloc jn _
 have hbf2:Blk W2 fb 96 #[.string sb,.int .u32 (id:Int),.int .i64 (sz:Int),.slice ba bn bc]:=by rw[hW2,hfb,<-hs1];exact Blk.new W1 _ _
 have hbx2:=hbx1.below hB2 hbx1.lt;have hB02:Below w.heap.size w W2:=hB1.trans (hB2.mono hB1.size);have m2:=hbx1.cell 2;have x1:=hbx2.cell 1;have f0:=hbf2.cell 0;have f1:=hbf2.cell 1;have f2:=hbf2.cell 2;have f3:=hbf2.cell 3
 simp at m2 x1 f0 f1 f2 f3
 have d0:decide ((sb.size:Int) <1)=false:=jf (by omega);have d0b:decide (sb.size<1)=false:=jf (by omega);have d0c:decide (sb.size=0)=false:=jf (by omega);have d0d:decide ((sb.size:Int)<=0)=false:=jf (by omega);have d1:decide ((32:Int) <(sb.size:Int))=false:=by simp;omega
 have d1b:decide (32<sb.size)=false:=by simp;omega
 have d2:decide ((next:Int)<=(id:Int))=false:=by simp;omega
 have d2b:decide (next<=id)=false:=by simp;omega
 have d3:decide ((sz:Int) <0)=false:=by simp
 have d4: ((many sz:Int)==(bn:Int))=true:=by simp;omega
 have d4b: (many sz==bn)=true:=by simp;omega
 have d4c: ((many sz:Int) !=(bn:Int))=false:=by simp;omega
 have hmm:∀x∈l,Mani.many x.f.size=x.f.blocks.length:=λx hx=>(hM.each x.f (by rw[hfs];exact List.mem_map.2 ⟨x,hx,rfl⟩)).many
 have HF1:=jq hF1;have HM:=jq hM;have HX:=jq hx;have HXF:=jq hxf;have HNL:=jq hnl;have HFS:=jq hfs;have HBL:=jq hblk;have HLB:=jq hLb1;have HBN:=jq hbn;have HSB:=jq hsb;have HSS:=jq hss;have HB02:=jq hB02;have HB2:=jq hB2;have HBX:=jq hbx2;have HBF:=jq hbf2;have HB:=jq hb;have HMN:=jq (λn'=>many08_any sz (by omega) (W2.drewN n'));clear h hB1 hbx1 hLb hLb1 hF1 hM hx hxf hxm hnl hfs hblk hbn hsb hss hB02 hB2 hbx2 hbf2 hb n1 n2 hmany hid;clear hs1 m2;rw[hW1]at c0 c1 c2 c3
 go_enter Tryz.func135,Tryz.ntmps135
 go_wp2_with fail
 rw[<-hW1,<-hW2,<-hfb,<-hxb];clear hW2 hfb hxb
 go_quiet ((go_at_call 102;refine Calls.quiet_of_same (HMN.out _)))
 obtain⟨V,hV⟩:=jl (W2.drewN nq);have hBV:Below W2.heap.size W2 V:=by rw[hV];exact⟨rfl,rfl,rfl,Nat.le_refl _,λ_ _=>rfl⟩
 rw[<-hV];have HBV:=jq hBV;clear hV hBV;clear c0 c1 c2 c3 hW1 x1 f0 f1 f2 f3 d0 d0b d0c d0d d1 d1b d2 d2b d3 d4 d4b hmm HMN
 go_wp2_with fail
 clear d4c
 go_loopw[6] (λy wr=>∃k:Nat,k<=i/\y=.int .i64 (k:Int)/\Hid (Below W2.heap.size W2 wr)) (λy _=>i-(intOf y).toNat)
 case atStart=>exact⟨0,Nat.zero_le _,rfl,HBV⟩
 case round=>
  obtain⟨k,hk,rfl,HK⟩:=hrel
  by_cases hki:k<i
  ·have hkd:decide ((k:Int) <(i:Int))=true:=jd (by omega);obtain⟨z,hz⟩:∃z,l[k]? =some z:=⟨l[k]'(by rw[<-HNL.out];omega),jg _⟩;have hzf:fs[k]? =some z.f:=by rw[HFS.out,List.getElem?_map,hz];rfl
   obtain⟨g',o',e',z0,z1,z2,z3⟩:=(HF1.out.later (HB2.out.trans (HK.out.mono HB2.out.size))).cells hz;cases e';obtain⟨⟨znm,zid,zsz,zbl⟩,za,zc⟩:=z;dsimp only at z0 z1 z2 z3 hzf;obtain⟨zb,hzb⟩:∃sb:ByteArray,sv znm=.string sb:=⟨_,rfl⟩;rw[hzb]at z0
   have hzl:znm<nm:=by
    obtain⟨k1,e1⟩:=jS.1 hzf;obtain⟨i1,e2⟩:=jS.1 HXF.out;have:=List.pairwise_iff_getElem.1 HM.out.rise k i k1 i1 hki;rw[e1,e2]at this;exact this
   have hzi:zid≠id:=λe=>by
    have h1:=ids_ne HM.out.ids.1 (jM hzf) (jM HXF.out) (λe=>by
     injection e with e1;rw[e1]at hzl;exact List.lt_irrefl _ hzl)
    exact h1 e
   have t1: ((zid:Int)==(id:Int))=false:=by rw[beq_eq_false_iff_ne];omega
   have t1b: (zid==id)=false:=by simpa using hzi
   have t2:Op.bytesLess zb.toList sb.toList=true:=by rw[less_lt hzb HSB.out];exact jd hzl
   have f0:=(HBF.out.below HK.out HBF.out.lt).cell 0;have f1:=(HBF.out.below HK.out HBF.out.lt).cell 1;have x2:=(HBX.out.below HK.out HBX.out.lt).cell 2
   simp at f0 f1 x2
   clear z2 z3 hz hzf hzb hzl hzi
   go_wp2_with fail
   go_quiet (fail)
   go_wp2_with fail
   go_roundw
   case rel=>exact⟨k+1,hki,by simp,jq (drewN_below HK.out _)⟩
   case measure=>simp[intOf];omega
  ·obtain rfl:i=k:=by omega
   have hkd:decide ((i:Int) <(i:Int))=false:=jf (by omega);have f3:=(HBF.out.below HK.out HBF.out.lt).cell 3
   simp at f3
   go_wp2_with fail
   go_loopw[73] (λy wr=>∃j:Nat,j<=bn/\y=.int .i64 (j:Int)/\Hid (Below W2.heap.size W2 wr)) (λy _=>bn-(intOf y).toNat)
   case atStart=>exact⟨0,Nat.zero_le _,rfl,HK⟩
   case round=>
    clear f3 HK;obtain⟨j,hj,rfl,HJ⟩:=hrel
    by_cases hjn:j<bn
    ·have hjd:decide ((j:Int) <(bn:Int))=true:=jd (by omega);obtain⟨q,hq⟩:∃q,bl[j]? =some q:=⟨bl[j]'(by rw[<-HBN.out];exact hjn),jg _⟩;obtain⟨q1,q2⟩:=HBL.out q (jM hq);have hLj:=HLB.out.later (HB2.out.trans (HJ.out.mono HB2.out.size));obtain⟨bg,bo,rfl,cq⟩:=lies_at hLj (k:=j) (u:=iv q) (by rw[List.getElem?_map,hq];rfl);unfold iv at cq;have hbf:=HBF.out.below HJ.out HBF.out.lt;have f3:=hbf.cell 3
     simp at f3
     have hnd:bl.Nodup:=List.Nodup.sublist (l₂:=bksL fs) (by
      obtain⟨a,b,e⟩:=List.append_of_mem (jM HXF.out);rw[e];unfold bksL;rw[List.flatMap_append,jC];exact(List.sublist_append_left _ _).trans (List.sublist_append_right _ _)) HM.out.bks.1
     have hnot:decide (q∈bl.take j)=false:=jf (λhm=>by
      obtain⟨i1,hi1⟩:=List.mem_iff_getElem?.1 hm;rw[List.getElem?_take]at hi1
      split at hi1
      ·have hlt:i1<j:=by assumption
       obtain⟨k1,e1⟩:=jS.1 hi1;obtain⟨k2,e2⟩:=jS.1 hq
       exact absurd (e1.trans e2.symm) (λe=>by
        have:=(List.pairwise_iff_getElem.1 hnd) i1 j k1 k2 hlt;exact this e)
      ·cases hi1)
     have hsl:=slice_high (some ⟨bg,bo,none⟩) bn bc j (by omega);have hlt: (bl.take j).length=j:=by rw[jT];have:=HBN.out;omega
     have ham:∀n',Calls Tryz.prog 161 #[.int .i64 (q:Int),.slice (some ⟨bg,bo,none⟩) j bc] (wr.drewN n') λe w'=>e=.returned (.bool false)/\w'=wr.drewN n':=λn'=>by
      have:=among09_any (some ⟨bg,bo,none⟩) bc (bl.take j) q (wr.drewN n') (by rw[List.map_take];exact(hLj.take j)) (by rw[hlt];omega);rw[hlt,hnot]at this;exact this
     have s0:decide ((q:Int) <32)=false:=jf (by omega);have s0b:decide (q<32)=false:=jf (by omega);have s1:decide ((65536:Int)<=(q:Int))=false:=jf (by omega);have s1b:decide (65536<=q)=false:=jf (by omega);have HAM:=jq ham;have HQ:=jq hq;clear hLj hnd hnot hlt ham hq hbf
     go_wp2_with fail
     go_quiet ((go_at_call 161;refine Calls.quiet_of_same (HAM.out _)))
     obtain⟨V3,hV3⟩:=jl (wr.drewN nq);have hBV3:Below W2.heap.size W2 V3:=by rw[hV3];exact drewN_below HJ.out _
     rw[<-hV3];have HBV3:=jq hBV3;clear hV3 hBV3 HJ HAM hsl cq f3
     go_wp2_with fail
     clear s0 s0b s1 s1b
     go_loopw[8] (λy wr=>∃k:Nat,k<=i/\y=.int .i64 (k:Int)/\Hid (Below W2.heap.size W2 wr)) (λy _=>i-(intOf y).toNat)
     case atStart=>exact⟨0,Nat.zero_le _,rfl,HBV3⟩
     case round=>
      clear HBV3;obtain⟨k,hk,rfl,HK⟩:=hrel
      by_cases hki:k<i
      ·have hkd:decide ((k:Int) <(i:Int))=true:=jd (by omega);obtain⟨z,hz⟩:∃z,l[k]? =some z:=⟨l[k]'(by rw[<-HNL.out];omega),jg _⟩;have hzf:fs[k]? =some z.f:=by rw[HFS.out,List.getElem?_map,hz];rfl
       have hFr:=HF1.out.later (HB2.out.trans (HK.out.mono HB2.out.size));obtain⟨g',o',e',_,_,_,z3⟩:=hFr.cells hz;cases e';have hzb:=(HB.out z (jM hz)).1;obtain⟨hLz,hcz⟩:=hFr.blocks z (jM hz);have hLj:=HLB.out.later (HB2.out.trans (HK.out.mono HB2.out.size));obtain⟨g2,o2,e2,cq⟩:=lies_at hLj (k:=j) (u:=iv q) (by rw[List.getElem?_map,HQ.out];rfl);cases e2;unfold iv at cq;have f3:=(HBF.out.below HK.out HBF.out.lt).cell 3;have x2:=(HBX.out.below HK.out HBX.out.lt).cell 2
       simp at f3 x2
       have hnot:decide (q∈z.f.blocks)=false:=jf (λhm=>by
        have e:=bks_apart HM.out.bks.1 (jM hzf) (jM HXF.out) hm (jM HQ.out);obtain⟨k1,e1⟩:=jS.1 hzf;obtain⟨k2,e2⟩:=jS.1 HXF.out;have:=List.pairwise_iff_getElem.1 HM.out.rise k i k1 k2 hki;rw[e1,e2,e]at this;exact List.lt_irrefl _ this)
       obtain⟨zn,hzn⟩:=jl z.f.blocks.length
       have ham:∀n',Calls Tryz.prog 161 #[.int .i64 (q:Int),.slice z.a zn z.c] (wr.drewN n') λe w'=>e=.returned (.bool false)/\w'=wr.drewN n':=λn'=>by
        have:=among09_any z.a z.c z.f.blocks q (wr.drewN n') hLz hzb;rw[hnot,<-hzn]at this;exact this
       rw[<-hzn]at z3 hzb hcz;have HAM:=jq ham;clear hz hzf hFr hLz hLj hnot hzn ham
       go_wp2_with fail
       go_quiet ((go_at_call 161;refine Calls.quiet_of_same (HAM.out _)))
       go_wp2_with fail
       go_roundw
       case rel=>exact⟨k+1,hki,by simp,jq (drewN_below HK.out _)⟩
       case measure=>simp[intOf];omega
      ·obtain rfl:i=k:=by omega
       have hkd:decide ((i:Int) <(i:Int))=false:=jf (by omega)
       go_wp2_with fail
       go_roundw
       case rel=>exact⟨j+1,hjn,by simp,HK⟩
       case measure=>simp[intOf];omega
    ·obtain rfl:j=bn:=by omega
     have hjd:decide ((j:Int) <(j:Int))=false:=jf (by omega)
     go_wp2_with fail
     go_ret
     exact⟨rfl,HB02.out.trans (HJ.out.mono HB02.out.size)⟩
end RefF
namespace RefF
open Go.RowKit Go.Deep Mem Crc Mani Full
attribute [local go_sem] Oper.semAt_some
theorem may09_yes (ver next:Nat) (a:Option Addr) (c:Nat) (l:List FR) (w:World) (h:FilesIn w a l) (hM:MOk next none [] [] (l.map FR.f)) (hl:l.length<=1000000) (hb:∀x∈l,x.f.blocks.length<=1000000/\x.f.size<=1000000000) (hv:ver<18446744073709551616) (hn:next<4294967296) (hm: (bodyL ver next (l.map FR.f)).length<=900000):
  Calls Tryz.prog 104 #[.agg #[.int .u64 (ver:Int),.int .u32 (next:Int),.slice a l.length c]] w λe w'=>e=.returned (.bool (decide ((bodyL ver next (l.map FR.f)).length<=2035)))/\Below w.heap.size w w':=by
 obtain⟨n,hnl⟩:=jl l.length;rw[<-hnl]at hl⊢;have hfile:∀(i:Nat) (V:World),i<n->FilesIn V a l->_:=λi V hi hV=>file09_yes ver next a c l i V hV hM (by omega) (by omega) hb
 rw[<-hnl]at hfile;have hbody:∀V:World,FilesIn V a l->_:=λV hV=>body09_any ver next a c l V hV hv hn (λx hx=>⟨Nat.lt_trans (hM.each x.f (List.mem_map.2 ⟨x,hx,rfl⟩)).id hn,by have:=(hb x hx).2;omega,λi hi=>by have:=((hM.each x.f (List.mem_map.2 ⟨x,hx,rfl⟩)).blocks i hi).2;omega⟩) hm (by omega)
 rw[<-hnl]at hbody;obtain⟨rv,hrv⟩:=jl (decide ((bodyL ver next (l.map FR.f)).length<=2035));obtain⟨bn,hbn⟩:=jl ((bodyL ver next (l.map FR.f)).length);rw[<-hrv];rw[<-hbn]at hrv hm;have HBN:=jq hbn;obtain⟨W1,hW1⟩:=jl (w.alloc (.cells #[.int .u64 (ver:Int),.int .u32 (next:Int),.slice a n c] 34));obtain⟨xb,hxb⟩:=jl w.heap.size;have hB1:Below w.heap.size w W1:=by rw[hW1];exact(Below.refl _ w).alloc jn _
 have hbx1:Blk W1 xb 34 #[.int .u64 (ver:Int),.int .u32 (next:Int),.slice a n c]:=by rw[hW1,hxb];exact Blk.new w _ _
 have HF1:=jq (h.later hB1);have HFL:=jq hfile;have HBD:=jq hbody;have HB1:=jq hB1;have HBX:=jq hbx1;have HRV:=jq hrv;clear h hM hb hfile hbody hB1 hbx1 hnl hbn hrv
 go_enter Tryz.func104,Tryz.ntmps104
 go_wp2_with fail
 rw[<-hW1,<-hxb];clear hW1 hxb
 go_loopw[7] (λy wr=>∃k:Nat,k<=n/\y=.int .i64 (k:Int)/\Hid (Below W1.heap.size W1 wr)) (λy _=>n-(intOf y).toNat)
 case atStart=>exact⟨0,Nat.zero_le _,rfl,jq (Below.refl _ _)⟩
 case round=>
  obtain⟨k,hk,rfl,HK⟩:=hrel;have hbk:=HBX.out.below HK.out HBX.out.lt;have x0:=hbk.cell 0;have x1:=hbk.cell 1;have x2:=hbk.cell 2
  simp at x0 x1 x2
  by_cases hkn:k<n
  ·have hkd:decide ((k:Int) <(n:Int))=true:=jd (by omega);have HC:=jq (HFL.out k wr hkn (HF1.out.later HK.out));clear hbk
   go_wp2_with fail
   refine HC.out.mono ?_;rintro e w1 ⟨rfl,hB⟩;have HN:=jq (HK.out.trans (hB.mono HK.out.size));clear hB
   go_wp2_with fail
   go_roundw
   case rel=>exact⟨k+1,hkn,by simp,HN⟩
   case measure=>simp[intOf];omega
  ·obtain rfl:n=k:=by omega
   have hkd:decide ((n:Int) <(n:Int))=false:=jf (by omega);have HC:=jq (HBD.out wr (HF1.out.later HK.out));clear hbk
   go_wp2_with fail
   refine HC.out.mono ?_;rintro e w1 ⟨v,rfl,hO,hB⟩;obtain⟨va,vc,rfl,_,_,_,_⟩:=own_shape hO;rw[<-HBN.out];have HN:=jq (HK.out.trans (hB.mono HK.out.size))
   have hrd:decide ((bn:Int)+13<=2048)=rv:=by
    rw[HRV.out]
    by_cases e:bn<=2035
    ·rw[jd e,jd (by omega)]
    ·rw[jf e,jf (by omega)]
   clear hB hO
   go_wp2_with fail
   go_ret
   exact⟨rfl,HB1.out.trans (HN.out.mono HB1.out.size)⟩
end RefF
namespace RefF
open Go.RowKit Go.Deep Mem Crc Mani Full
def InRow (W:World) (vF:Value) (y:FR):Prop:=Lies W y.a (y.f.blocks.map iv)/\y.f.blocks.length<=y.c/\∀b,Mem.blk y.a=some b->vF.ownBlock=some b
structure P10 (w:World) (l0:List FR) (x r q:Nat) (cx:Array Value) (vF:Value) (F0:List Nat) (ver next:Nat) (u v:Value) (l:List FR) (af:Option Addr) (cf:Nat) (fr:List Nat) (W:World):Prop where
 below:Below w.heap.size w W
 par:Blk W x 34 cx
 res:Blk W r 34 #[.int .u64 0,.int .u32 0,.slice none 0 0]
 man:Blk W q 34 #[.int .u64 (ver:Int),.int .u32 (next:Int),u]
 row:W.ownsRow w.heap.size 96 4 v l.length (flatF l)
 own:W.ownsRow w.heap.size 3 1 vF F0.length (F0.map iv)
 free:Lies W af (fr.map iv)
 fa:∀b,Mem.blk af=some b->vF.ownBlock=some b
 fc:fr.length<=cf
 blocks:∀y∈l,y∈l0\/InRow W vF y
 gq:w.heap.size<=q
 gr:w.heap.size<=r
 ne:q≠r
 nx:q≠x
variable {w W W':World} {l0 l l':List FR} {x r q:Nat} {cx:Array Value} {vF:Value} {F0:List Nat} {ver next:Nat} {u v v':Value} {af:Option Addr} {cf:Nat} {fr:List Nat}
theorem InRow.upon {y:FR} {P:Nat->Prop} (h:InRow W vF y) (hu:Upon P W W') (hn:∀b,vF.ownBlock=some b->¬P b):InRow W' vF y:=⟨h.1.upon hu (λb hb=>hn b (h.2.2 b hb)),h.2⟩
theorem P10.move {P:Nat->Prop} (h:P10 w l0 x r q cx vF F0 ver next u v l af cf fr W) (hu:Upon P W W') (hb:Below w.heap.size w W') (h1:¬P x) (h2:¬P r) (h3:∀b,vF.ownBlock=some b->¬P b) (hm:Blk W' q 34 #[.int .u64 (ver:Int),.int .u32 (next:Int),u]) (hr:W'.ownsRow w.heap.size 96 4 v l.length (flatF l)):P10 w l0 x r q cx vF F0 ver next u v l af cf fr W':=
 ⟨hb,h.par.upon hu h1,h.res.upon hu h2,hm,hr,own_upon h.own hu h3,h.free.upon hu (λb hb=>h3 b (h.fa b hb)),h.fa,h.fc,λy hy=>(h.blocks y hy).imp id (λh4=>h4.upon hu h3),h.gq,h.gr,h.ne,h.nx⟩
theorem P10.later (h:P10 w l0 x r q cx vF F0 ver next u v l af cf fr W) (hB:Below W.heap.size W W'):P10 w l0 x r q cx vF F0 ver next u v l af cf fr W':=
 h.move (P:=λ_=>False) (Upon.of_below hB) (h.below.trans (hB.mono h.below.size)) id id (λ_ _=>id) (h.man.below hB h.man.lt) (own_later h.row hB)
theorem P10.rowed (h:P10 w l0 x r q cx vF F0 ver next u v l af cf fr W) (hg:W.grownBy W' v.ownBlock) (hrow:W'.ownsRow w.heap.size 96 4 v' l'.length (flatF l')) (hb:∀y∈l',y∈l\/y∈l0\/InRow W vF y):P10 w l0 x r q cx vF F0 ver next u v' l' af cf fr W':=by
 have hu:Upon (λg=>v.ownBlock=some g) W W':=Upon.of_grown hg (λg hg=>.inl hg);have h3:∀b,vF.ownBlock=some b->¬v.ownBlock=some b:=λb hb e=>own_ne_own h.row h.own (by decide) e hb
 refine⟨h.below.trans (hu.below h.below.size (λg hg=>(h.row.lt g hg).1)),h.par.upon hu (own_ne_blk h.row h.par (by decide)),h.res.upon hu (own_ne_blk h.row h.res (by decide)),h.man.upon hu (own_ne_blk h.row h.man (by decide)),hrow,own_upon h.own hu h3,h.free.upon hu (λb hb=>h3 b (h.fa b hb)),h.fa,h.fc,λy hy=>?_,h.gq,h.gr,h.ne,h.nx⟩;rcases hb y hy with h1|h1|h1
 ·exact(h.blocks y h1).imp id (λh4=>h4.upon hu h3)
 ·exact .inl h1
 ·exact .inr (h1.upon hu h3)
theorem P10.store (h:P10 w l0 x r q cx vF F0 ver next u v l af cf fr W) (i:Nat) (z:Value) {ver' next':Nat} {u':Value} (he: (#[.int .u64 (ver:Int),.int .u32 (next:Int),u]:Array Value).setIfInBounds i z=#[.int .u64 (ver':Int),.int .u32 (next':Int),u']):P10 w l0 x r q cx vF F0 ver' next' u' v l af cf fr (W.setCell ⟨q,i,none⟩ z):=by
 have hu:Upon (λg=>g=q) W (W.setCell ⟨q,i,none⟩ z):=Upon.set (P:=λg=>g=q) (Upon.refl _ W) (p:=⟨q,i,none⟩) (.inl rfl) z;have h3:∀b,vF.ownBlock=some b->¬b=q:=λb hb e=>own_ne_blk h.own h.man (by decide) (by rw[<-e];exact hb)
 have hm:=h.man.set i z;rw[he]at hm;exact⟨h.below.setCell h.gq z,h.par.upon hu (λe=>h.nx e.symm),h.res.upon hu (λe=>h.ne e.symm),hm,own_far h.row (own_ne_blk h.row h.man (by decide)) z,own_upon h.own hu h3,h.free.upon hu (λb hb=>h3 b (h.fa b hb)),h.fa,h.fc,λy hy=>(h.blocks y hy).imp id (λh4=>h4.upon hu h3),h.gq,h.gr,h.ne,h.nx⟩
theorem P10.set (h:P10 w l0 x r q cx vF F0 ver next u v l af cf fr W):P10 w l0 x r q cx vF F0 ver next v v l af cf fr (W.setCell ⟨q,2,none⟩ v):=h.store 2 v rfl
theorem P10.nexts (h:P10 w l0 x r q cx vF F0 ver next u v l af cf fr W) (n:Nat):P10 w l0 x r q cx vF F0 ver n u v l af cf fr (W.setCell ⟨q,1,none⟩ (.int .u32 (n:Int))):=h.store 1 _ rfl
theorem P10.drop (h:P10 w l0 x r q cx vF F0 ver next u v l af cf fr W) {af':Option Addr} {cf':Nat} {fr':List Nat} (hL:Lies W af' (fr'.map iv)) (ha:∀b,Mem.blk af'=some b->Mem.blk af=some b) (hc:fr'.length<=cf'):P10 w l0 x r q cx vF F0 ver next u v l af' cf' fr' W:=
 ⟨h.below,h.par,h.res,h.man,h.row,h.own,hL,λb hb=>h.fa b (ha b hb),hc,h.blocks,h.gq,h.gr,h.ne,h.nx⟩
theorem P10.files {a0:Option Addr} (h:P10 w l0 x r q cx vF F0 ver next u v l af cf fr W) (hF:FilesIn w a0 l0):∃a c,v=.slice a l.length c/\FilesIn W a l/\(∀b,Mem.blk a=some b->w.heap.size<=b/\b<W.heap.size)/\∀y∈l,y∈l0\/∀b,Mem.blk y.a=some b->w.heap.size<=b/\b<W.heap.size:=by
 obtain⟨a,c,rfl,_,hL,hg,_⟩:=own_shape h.row;refine⟨a,c,rfl,⟨hL,λy hy=>?_⟩,hg,λy hy=>(h.blocks y hy).imp id (λh4 b hb=>h.own.lt b (h4.2.2 b hb))⟩;rcases h.blocks y hy with h1|h1
 ·exact⟨(hF.blocks y h1).1.later h.below,(hF.blocks y h1).2⟩
 ·exact⟨h1.1,h1.2.1⟩
theorem P10.files9 {a0:Option Addr} (h:P10 w l0 x r q cx vF F0 ver next u v l af cf fr W) (hF:FilesIn w a0 l0) (hu:Upon (λg=>g=r) W W'):∃a c,v=.slice a l.length c/\FilesIn W' a l:=by
 have hrow:=own_upon h.row hu (λg hg e=>own_ne_blk h.row h.res (by decide) (by rw[<-e];exact hg));obtain⟨a,c,rfl,_,hL,hg,_⟩:=own_shape hrow;have hB:Below w.heap.size w W':=h.below.trans (hu.below h.below.size (λg hg=>by rw[hg];exact h.gr));refine⟨a,c,rfl,⟨hL,λy hy=>?_⟩⟩;rcases h.blocks y hy with h1|h1
 ·exact⟨(hF.blocks y h1).1.later hB,(hF.blocks y h1).2⟩
 ·have h2:=h1.upon hu (λb hb e=>own_ne_blk h.own h.res (by decide) (by rw[<-e];exact hb));exact⟨h2.1,h2.2.1⟩
theorem rplan_len {fs:List Fil} {ch:List (List UInt8)}:∀{L:List FF} {s s':RP},rplan fs ch L s=some s'->s'.out.length<=s.out.length+L.length*(fs.length+1)/\s'.next<=s.next+L.length/\s.next<=s'.next/\s'.free.length<=s.free.length
 | [],s,s',h=>by
  have h:some s=some s':=h;cases h;exact⟨by omega,by omega,by omega,by omega⟩
 |x ::r,s,s',h=>by
  rw[rplan_cons]at h
  cases ht:rstep fs ch x s with
  |none=>rw[ht]at h;cases h
  |some t=>
   rw[ht]at h;obtain⟨h1,h2,h3,h4⟩:=rplan_len (L:=r) (s:=t) h
   have hs:t.out.length<=s.out.length+(fs.length+1)/\t.next<=s.next+1/\s.next<=t.next/\t.free.length<=s.free.length:=by
    unfold rstep at ht
    split at ht
    ·split at ht
     ·cases ht
     ·cases ht;refine⟨?_,?_,?_,?_⟩ <;> simp <;> omega
    ·cases ht;have:=List.length_filter_le (λf=>decide (f.name=x.1)) fs;refine⟨?_,?_,?_,?_⟩ <;> simp <;> omega
   rw[List.length_cons,Nat.succ_mul]
   omega
end RefF
namespace RefF
open Go.RowKit Go.Deep Mem Crc Mani Full Go.Proofs.YtbfochdoeibofaaGreatDoor.Read
open Store (nv)
theorem slice_F (g o n nc k:Nat) (hk:k<n) (hn:n<=nc) (W:World): (Instr.sliceAt 35 (.slice (some ⟨g,o,none⟩) n nc) (some (.int .i64 (k:Int))) (some (.int .i64 ((k:Int)+1))) none).run Tryz.prog W=.ok (.slice (some ⟨g,o+k*2,none⟩) 1 (nc-k)) W:=by
 have hel:Tryz.prog.elem 35=69:=by kernel_rfl
 have hu:Tryz.prog.underlying 35=some (.slice (Tryz.prog.elem 35)):=by rw[hel];exact Tryz.underlying35
 have hsz:∀W:World,(sizeOf 69).run Tryz.prog W=.ok 2 W:=λW=>by kernel_rfl
 rw[run_sliceAt_slice W _ _ _ _ _ hu,run_slice_lh W _ _ _ _ hu .i64 .i64 (k:Int) ((k:Int)+1) (by omega) (by omega) (by omega),hel,hsz];have e1: ((k:Int)+1).toNat=k+1:=by omega
 have e2: (k:Int).toNat=k:=by omega
 simp only[Result.andThen,sliced,e1,e2];have e3: (⟨g,o,none⟩:Addr).add (k*2)=⟨g,o+k*2,none⟩:=by unfold Addr.add;split <;> simp_all
 have e4:k+1-k=1:=by omega
 rw[if_neg (by omega),e4,Option.map_some,e3]
theorem slice_hm (a:Option Addr) (len cap m:Nat) (h1:m<=cap) (W:World): (Instr.sliceAt 51 (.slice a len cap) none (some (.int .i64 (m:Int))) (some (.int .i64 (m:Int)))).run Tryz.prog W=.ok (.slice a m m) W:=by
 have hel:Tryz.prog.elem 51=3:=by kernel_rfl
 have hu:Tryz.prog.underlying 51=some (.slice (Tryz.prog.elem 51)):=by rw[hel];exact Tryz.underlying51
 have hsz:∀W:World,(sizeOf 3).run Tryz.prog W=.ok 1 W:=λW=>by kernel_rfl
 rw[run_sliceAt_slice W _ _ _ _ _ hu,run_slice_hm W _ _ _ _ hu .i64 .i64 (m:Int) (m:Int) (by omega) (by omega) (by omega),hel,hsz]
 cases a with
 |none=>simp[Result.andThen,sliced]
 |some p=>
  have:p.add 0=p:=by unfold Addr.add;cases p;split <;> simp_all
  simp[Result.andThen,sliced,this]
theorem slice_l (a:Option Addr) (len cap m:Nat) (h1:m<=len):∃a',(∀W:World,(Instr.sliceAt 51 (.slice a len cap) (some (.int .i64 (m:Int))) none none).run Tryz.prog W=.ok (.slice a' (len-m) (cap-m)) W)/\(∀b,Mem.blk a'=some b->Mem.blk a=some b)/\∀(W:World) (l:List Nat),l.length=len->len<=cap->Lies W a (l.map iv)->Lies W a' ((l.drop m).map iv):=by
 have hel:Tryz.prog.elem 51=3:=by kernel_rfl
 have hu:Tryz.prog.underlying 51=some (.slice (Tryz.prog.elem 51)):=by rw[hel];exact Tryz.underlying51
 have hsz:∀W:World,(sizeOf 3).run Tryz.prog W=.ok 1 W:=λW=>by kernel_rfl
 refine⟨if cap=m then a else a.map (·.add (m*1)),λW=>?_,λb hb=>?_,λW l hl hc hL=>?_⟩
 ·rw[run_sliceAt_slice W _ _ _ _ _ hu,run_slice_l W _ _ _ _ hu .i64 (m:Int) (by omega) (by omega),hel,hsz]
  simp[Result.andThen,sliced]
 ·split at hb
  ·exact hb
  ·cases a with
   |none=>exact hb
   |some p=>
    rw[<-hb];unfold Mem.blk
    simp
    unfold Addr.add
    split <;> rfl
 ·by_cases hm:m=len
  ·rw[List.drop_of_length_le (by omega)];exact .inl rfl
  ·rw[if_neg (by omega),List.map_drop];rcases hL with h0|⟨g,o,rfl,hg,hcs⟩
   ·exact .inl (by rw[h0];simp)
   ·have:=(Lies.drop (w:=W) (g:=g) (off:=o) (xs:=l.map iv) (.inr ⟨g,o,rfl,hg,hcs⟩) m);rw[Nat.mul_one];have e3: (⟨g,o,none⟩:Addr).add m=⟨g,o+m,none⟩:=by unfold Addr.add;split <;> simp_all
    show Lies W (some (Addr.add ⟨g,o,none⟩ m)) _;rw[e3];exact this
theorem many_pages (n:Nat): (n+111)/112=Mani.many n:=by
 unfold Mani.many
 split <;> omega
theorem far_three {W:World} {g rb:Nat} {t:TypeId} {cs:Array Value} (h:Blk W g t cs) (hn:g≠rb) (v0 v1 v2:Value):Blk (((W.setCell ⟨rb,0,none⟩ v0).setCell ⟨rb,1,none⟩ v1).setCell ⟨rb,2,none⟩ v2) g t cs:=((h.far (p:=⟨rb,0,none⟩) hn v0).far (p:=⟨rb,1,none⟩) hn v1).far (p:=⟨rb,2,none⟩) hn v2
def Planned (w:World) (l:List FR) (ver:Nat) (o:Option RP) (e:Ending) (w':World):Prop:=
 Below w.heap.size w w'/\match o with
  |none=>e=.returned (.tuple #[.agg #[.int .u64 0,.int .u32 0,.slice none 0 0],.bool false])
  |some s=>∃a' c' l',e=.returned (.tuple #[.agg #[.int .u64 ((ver+1:Nat):Int),.int .u32 (s.next:Int),.slice a' (l':List FR).length c'],.bool (decide ((bodyL (ver+1) s.next s.out).length<=2035))])/\l'.map FR.f=s.out/\FilesIn w' a' l'/\(∀b,Mem.blk a'=some b->w.heap.size<=b/\b<w'.heap.size)/\∀y∈l',y∈l\/∀b,Mem.blk y.a=some b->w.heap.size<=b/\b<w'.heap.size
attribute [local go_sem] eql_str
attribute [local go_sem] Oper.semAt_some
theorem plan10_any (ver next:Nat) (a:Option Addr) (c:Nat) (l:List FR) (cnt:Nat) (an:Option Addr) (nc:Nat) (L:List FF) (ac:Option Addr) (cc:Nat) (ch:List (List UInt8)) (w:World)
  (h:FilesIn w a l) (hN:Lies w an (flatP L)) (hC:Lies w ac (ch.map nv)) (hl:l.length<=2100) (hb:∀x∈l,x.f.blocks.length<=1000000/\∀i∈x.f.blocks,i<cnt) (hc:33<=cnt) (hc2:cnt<=65536) (hL:L.length<=100) (hLc:L.length<=nc) (hLb:∀x∈L,x.2.length<=1000000) (hch:ch.length<=1000000) (hv:ver<18446744073709551615) (hnx:next+L.length<4294967295)
  (hM:∀s,rplan (l.map FR.f) ch L ⟨freeB cnt (l.map FR.f),next,[]⟩=some s->MOk s.next none [] [] s.out/\(bodyL (ver+1) s.next s.out).length<=900000/\∀f∈s.out,f.blocks.length<=1000000/\f.size<=1000000000):
  Calls Tryz.prog 94 #[.agg #[.int .u64 (ver:Int),.int .u32 (next:Int),.slice a l.length c],.int .i64 (cnt:Int),.slice an L.length nc,.slice ac ch.length cc] w λe w'=>
   Planned w l ver (rplan (l.map FR.f) ch L ⟨freeB cnt (l.map FR.f),next,[]⟩) e w':=by
 obtain⟨nl,hnl⟩:=jl l.length;obtain⟨n,hn⟩:=jl L.length;obtain⟨nh,hnh⟩:=jl ch.length;obtain⟨fs,hfs⟩:=jl (l.map FR.f);obtain⟨F0,hF0⟩:=jl (freeB cnt (l.map FR.f))
 have hfl:F0.length<=65536:=by
  rw[hF0];unfold Full.freeB;exact Nat.le_trans (List.length_filter_le _ _) (by simp;omega)
 rw[<-hF0]at hM⊢;rw[<-hfs]at hM⊢;obtain⟨st,hst⟩:=jl (RP.mk F0 next []);rw[<-hst]at hM⊢;obtain⟨W1,hW1⟩:=jl (w.alloc (.cells #[.int .u64 (ver:Int),.int .u32 (next:Int),.slice a nl c] 34));obtain⟨W2,hW2⟩:=jl (W1.alloc (.cells #[.int .u64 0,.int .u32 0,.slice none 0 0] 34));obtain⟨xb,hxb⟩:=jl w.heap.size;obtain⟨rb,hrb⟩:=jl (w.heap.size+1);have hs1:W1.heap.size=w.heap.size+1:=by rw[hW1,World.size_alloc]
 have hB1:Below w.heap.size w W1:=by rw[hW1];exact(Below.refl _ w).alloc jn _
 have hB2:Below w.heap.size w W2:=by rw[hW2];exact hB1.alloc hB1.size _
 have hbx1:Blk W1 xb 34 #[.int .u64 (ver:Int),.int .u32 (next:Int),.slice a nl c]:=by rw[hW1,hxb];exact Blk.new w _ _
 have hbx2:Blk W2 xb 34 #[.int .u64 (ver:Int),.int .u32 (next:Int),.slice a nl c]:=by rw[hW2];exact hbx1.alloc _
 have hbr2:Blk W2 rb 34 #[.int .u64 0,.int .u32 0,.slice none 0 0]:=by rw[hW2,hrb,<-hs1];exact Blk.new W1 _ _
 have hfree:=free10_any ver next a c l cnt W2 (h.later hB2) (by omega) hb (by omega) hc2;rw[<-hF0,<-hnl]at hfree;have hgx:w.heap.size<=xb/\w.heap.size<=rb/\xb≠rb:=by omega
 have HF:=jq h;have HN:=jq hN;have HC:=jq hC;have HB:=jq hb;have HLB:=jq hLb;have HM:=jq hM;have HNL:=jq hnl;have HNN:=jq hn;have HNH:=jq hnh;have HFS:=jq hfs;have HFL:=jq hfl;have HST:=jq hst;have HB2:=jq hB2;have HBX2:=jq hbx2;have HBR2:=jq hbr2;have HFREE:=jq hfree;have HGX:=jq hgx;rw[<-hn]at hL hLc hnx;rw[<-hnh]at hch;rw[<-hnl]at hl;rw[<-hnl,<-hn,<-hnh];clear h hN hC hb hLb hM hnl hn hnh hfs hF0 hfl hst hB1 hB2 hbx1 hbx2 hbr2 hfree hs1 hgx
 go_enter Tryz.func94,Tryz.ntmps94
 go_wp2_with fail
 rw[<-hW1,<-hW2,<-hrb,<-hxb];clear hW1 hW2 hxb hrb;refine HFREE.out.mono ?_;rintro e w3 ⟨vF,rfl,hOF,hB3⟩;obtain⟨af0,cf0,rfl,hcf0,hLF,hgF,_⟩:=own_shape hOF;obtain⟨W4,hW4⟩:=jl (w3.alloc (.cells #[.int .u64 ((ver:Int)+1),.int .u32 (next:Int),.slice none 0 0] 34));obtain⟨q,hq⟩:=jl w3.heap.size;have hB34:Below w3.heap.size w3 W4:=by rw[hW4];exact(Below.refl _ w3).alloc jn _
 have hB24:Below W2.heap.size W2 W4:=hB3.trans (hB34.mono hB3.size);have hz2:=HB2.out.size;have hz3:=hB3.size;have hlx:=HBX2.out.lt;have hlr:=HBR2.out.lt
 have hP0:P10 w l xb rb q #[.int .u64 (ver:Int),.int .u32 (next:Int),.slice a nl c] (.slice af0 F0.length cf0) F0 (ver+1) next (.slice none 0 0) (.slice none 0 0) [] af0 cf0 F0 W4:=
  ⟨HB2.out.trans (hB24.mono hz2),HBX2.out.below hB24 hlx,HBR2.out.below hB24 hlr,by rw[hW4,hq];exact Blk.new w3 _ _,World.ownsRow_nil _ _ _ _,own_mono (own_later hOF hB34) hz2,hLF.later hB34,λb hb=>by cases af0 <;> exact hb,hcf0,λy hy=>(by cases hy),by omega,HGX.out.2.1,by omega,by omega⟩
 have x0:=(HBX2.out.below hB3 hlx).cell 0;have x1:=(HBX2.out.below hB3 hlx).cell 1
 simp at x0 x1
 have HP0:=jq hP0;obtain⟨vF,hvF⟩:=jl (Value.slice af0 F0.length cf0);rw[<-hvF]at HP0;obtain⟨nf,hnf⟩:=jl F0.length;have HNF:=jq hnf;have HS0:Hid (rplan fs ch (L.take 0) st=some st):=jq rfl;rw[<-hnf];clear hOF hB3 hcf0 hLF hgF hB34 hB24 hP0 hvF hnf hz2 hz3 hlx hlr HBX2 HBR2 HFREE
 go_wp2_with fail
 rw[<-hW4,<-hq];clear hW4 hq x0 x1
 go_loopw[10,26] (λfv i wr=>∃(k:Nat) (S:RP) (u:Value) (l':List FR) (af:Option Addr) (cf nf:Nat),k<=n/\i=.int .i64 (k:Int)/\fv=.slice af nf cf/\nf<=65536/\nf<=cf/\Hid (nf=S.free.length)/\Hid (rplan fs ch (L.take k) st=some S)/\Hid (l'.map FR.f=S.out)/\Hid (P10 w l xb rb q #[.int .u64 (ver:Int),.int .u32 (next:Int),.slice a nl c] vF F0 (ver+1) S.next u u l' af cf S.free wr)) (λ_ i _=>n-(intOf i).toNat)
 case atStart=>
  refine⟨0,st,_,[],af0,cf0,nf,Nat.zero_le _,rfl,rfl,by rw[HNF.out];exact HFL.out,?_,jq (by rw[HST.out];exact HNF.out),HS0,jq (by rw[HST.out];rfl),jq (by rw[HST.out];exact HP0.out)⟩;rw[HNF.out];exact HP0.out.fc
 case round=>
  clear HP0 HS0;obtain⟨k,S,u,l',af,cf,nf,hk,rfl,rfl,hnf1,hnf2,HNF,HS,HL,HP⟩:=hrel
  by_cases hkn:k<n
  ·have hkd:decide ((k:Int) <(n:Int))=true:=jd (by omega);obtain⟨x,hx⟩:∃x,L[k]? =some x:=⟨L[k]'(by rw[<-HNN.out];exact hkn),jg _⟩;have hBr:=HP.out.below;obtain⟨gn,on,rfl,c0,c1⟩:=cells_at (HN.out.later hBr) hx;obtain⟨sx,hsx⟩:∃b:ByteArray,nv x.1=.string b:=⟨_,rfl⟩;obtain⟨sy,hsy⟩:∃b:ByteArray,nv x.2=.string b:=⟨_,rfl⟩;have ham:=among_any ac cc ch x.1 wr (HC.out.later hBr) (by rw[<-HNH.out];exact hch);rw[hsx]at c0 ham;rw[hsy]at c1;rw[<-HNH.out]at ham;obtain⟨tin,htin⟩:=jl (decide (x.1∈ch));rw[<-htin]at ham;have hsn:=rplan_snoc (fs:=fs) (ch:=ch) hx st;rw[HS.out]at hsn;have hsb:rplan fs ch (L.take (k+1)) st=rstep fs ch x S:=hsn;obtain⟨o1,o2,o3,o4⟩:=rplan_len HS.out;have hfsl:fs.length=nl:=by rw[HFS.out,jP,<-HNL.out]
   rw[hfsl,HST.out]at o1;rw[HST.out]at o2 o3;dsimp only at o1 o2 o3;have htk: (L.take k).length<=100:=by rw[jT];omega
   have hol:l'.length<=300000:=by
    rw[show l'.length=S.out.length by rw[<-HL.out,jP]];have: (L.take k).length*(nl+1)<=100*2101:=Nat.mul_le_mul htk (by omega);simp only[List.length_nil,Nat.zero_add]at o1
    omega
   have HAM:=jq ham;have HX:=jq hx;have HSX:=jq hsx;have HSY:=jq hsy;have HSB:=jq hsb;have HTI:=jq htin;have HOL:=jq hol;have htk2: (L.take k).length<=k:=by rw[jT];omega
   have HO2:=jq (And.intro (show S.next<=next+k by omega) o3);clear ham hx hsx hsy hsn hsb htin hol o1 o2 o3 o4 hfsl htk hBr
   go_wp2_with fail
   refine HAM.out.mono ?_;rintro e w5 ⟨rfl,rfl⟩;cases tin
   ·have x2:=HP.out.par.cell 2
    simp at x2
    have hst:rplan fs ch (L.take (k+1)) st=some ⟨S.free,S.next,S.out++fs.filter (λf=>decide (f.name=x.1))⟩:=by
     rw[HSB.out];unfold rstep;rw[if_neg (of_decide_eq_false HTI.out.symm)]
    have HNS:=jq hst;have HP1:Hid (∃l2,l2.length<=300000+0/\l2.map FR.f=S.out++(fs.take 0).filter (λf=>decide (f.name=x.1))/\P10 w l xb rb q #[.int .u64 (ver:Int),.int .u32 (next:Int),.slice a nl c] vF F0 (ver+1) S.next u u l2 af cf S.free w5):=jq ⟨l',HOL.out,by rw[HL.out];simp,HP.out⟩;clear hst c0 c1
    go_wp2_with fail
    go_loopw[40] (λi wr=>∃j:Nat,j<=nl/\i=.int .i64 (j:Int)/\Hid (∃u l2,l2.length<=300000+j/\l2.map FR.f=S.out++(fs.take j).filter (λf=>decide (f.name=x.1))/\P10 w l xb rb q #[.int .u64 (ver:Int),.int .u32 (next:Int),.slice a nl c] vF F0 (ver+1) S.next u u l2 af cf S.free wr)) (λi _=>nl-(intOf i).toNat)
    case atStart=>exact⟨0,Nat.zero_le _,rfl,jq ⟨u,HP1.out⟩⟩
    case round=>
     clear HP1 x2;obtain⟨j,hj,rfl,HJ⟩:=hrel;obtain⟨u2,l2,hl2,hm2,hP2⟩:=HJ.out
     by_cases hjn:j<nl
     ·have hjd:decide ((j:Int) <(nl:Int))=true:=jd (by omega);obtain⟨z,hz⟩:∃z,l[j]? =some z:=⟨l[j]'(by rw[<-HNL.out];exact hjn),jg _⟩;have hBq:=hP2.below;obtain⟨g',o',rfl,z0,z1,z2,z3⟩:=(HF.out.later hBq).cells hz;obtain⟨g2,o2,e2,c0,c1⟩:=cells_at (HN.out.later hBq) HX.out;cases e2;rw[HSX.out]at c0;obtain⟨sz,hsz⟩:∃b:ByteArray,nv z.f.name=.string b:=⟨_,rfl⟩;rw[show sv z.f.name=.string sz from hsz]at z0;have hfz:fs[j]? =some z.f:=by rw[HFS.out,List.getElem?_map,hz];rfl
      have x2:=hP2.par.cell 2
      simp at x2
      have hnx2:S.out++(fs.take (j+1)).filter (λf=>decide (f.name=x.1))=(S.out++(fs.take j).filter (λf=>decide (f.name=x.1)))++(if z.f.name=x.1 then [z.f]else []):=by
       rw[List.take_add_one,hfz,List.filter_append,List.append_assoc]
       congr 2
       by_cases e:z.f.name=x.1 <;> simp[e]
      obtain⟨b,hb⟩:∃b:Bool,(sz.toList==sx.toList)=b:=⟨_,rfl⟩;have hbe: (z.f.name==x.1)=b:=by rw[<-str_beq hsz HSX.out];exact hb
      have HP2:=jq hP2;have HZ:=jq hz;have HNX2:=jq hnx2;have HM2:=jq hm2;have HL2:=jq hl2;have HBE:=jq hbe;have HSZ:=jq hsz;clear hz hfz hP2 hBq hnx2 hm2 hl2 hbe hsz HJ;cases b
      ·go_wp2_with fail
       go_quiet (fail)
       go_wp2_with fail
       go_roundw
       case rel=>exact⟨j+1,hjn,by simp,jq ⟨u2,l2,by have:=HL2.out;omega,by rw[HNX2.out,HM2.out,if_neg (by have:=HBE.out;simpa using this)];simp,HP2.out.later (drewN_below (Below.refl _ _) _)⟩⟩
       case measure=>simp[intOf];omega
      ·go_wp2_with fail
       go_quiet (fail)
       have hen:z.f.name=x.1:=by have:=HBE.out;simpa using this
       obtain⟨W5,hW5⟩:=jl (wr.drewN nq);have hB5:Below wr.heap.size wr W5:=by rw[hW5];exact drewN_below (Below.refl _ _) _
       rw[<-hW5];have hP5:=HP2.out.later hB5.drew;have hsz5:=hP5.below.size;obtain⟨g3,o3,e3,z0,z1,z2,z3⟩:=(HF.out.later hP5.below).cells HZ.out;cases e3;rw[show sv z.f.name=.string sz from HSZ.out]at z0;unfold iv at z2;obtain⟨zi,hzi⟩:=jl z.f.id;obtain⟨zs,hzs⟩:=jl z.f.size;obtain⟨zn,hzn⟩:=jl z.f.blocks.length
       have hvs:z.vs= [.string sz,.int .u32 (zi:Int),.int .i64 (zs:Int),.slice z.a zn z.c]:=by
        unfold FR.vs iv;rw[show sv z.f.name=.string sz from HSZ.out,hzi,hzs,hzn]
       rw[<-hzi]at z1;rw[<-hzs]at z2;rw[<-hzn]at z3;have x2:=hP5.par.cell 2;have q2:=hP5.man.cell 2;simp only[jt,ja,jb]at x2 q2;obtain⟨v9,w9,hr9,hrow9,hg9⟩:=append_file W5.drew 32 u2 l2 hP5.row z (by have:=HL2.out;omega) hsz5;rw[hvs]at hr9;have q2a: (W5.drew.alloc (.cells #[.string sz,.int .u32 (zi:Int),.int .i64 (zs:Int),.slice z.a zn z.c] 96)).cell? ⟨q,2,none⟩=some u2:=(((Below.refl _ W5.drew).alloc jn _).cell (p:=⟨q,2,none⟩) hP5.man.lt).trans q2
       have hP9:=hP5.rowed hg9 hrow9 (λy hy=>by
        rcases List.mem_append.1 hy with h1|h1
        ·exact .inl h1
        ·exact .inr (.inl (by rw[jE.1 h1];exact jM HZ.out)))
       have q3:=hP9.man.cell 2;have q3f:=hP9.man.frozen 2;simp only[jt,ja,jb]at q3;have HPA:=jq hP9.set;obtain⟨au,cu,rfl,_,_,_,_⟩:=own_shape hP5.row;obtain⟨a9,c9,rfl,_,_,_,_⟩:=own_shape hrow9;obtain⟨n9,hn9⟩:=jl ((l2++ [z]).length);rw[<-hn9]at hr9 HPA;obtain⟨n2,hn2⟩:=jl l2.length;rw[<-hn2]at hr9 q2 q2a q3;have q2b: (W5.alloc (.cells #[.string sz,.int .u32 (zi:Int),.int .i64 (zs:Int),.slice z.a zn z.c] 96)).cell? ⟨q,2,none⟩=some (.slice au n2 cu):=q2a;have HN29:=jq (And.intro hn2 hn9);clear hn9 hn2;have HHZ:=jq (And.intro hzi (And.intro hzs hzn));have HEN:=jq hen;clear hW5 hB5 hP5 hzi hzs hzn hvs hrow9 hg9 hP9 hen
       go_wp2_with fail
       go_region_law ((first|(refine step_append_run rfl (.tmp 56) (.tmp 62) 32 32 rfl _ _ rfl rfl hr9 ?_)))
       all_goals go_wp2_with fail
       all_goals exact⟨⟨j+1,hjn,by simp,jq ⟨_,l2++ [z],by rw[jL,List.length_singleton];have:=HL2.out;omega,by rw[HNX2.out,List.map_append,HM2.out,if_pos HEN.out];rfl,HPA.out⟩⟩,by simp[intOf];omega⟩
     ·obtain rfl:nl=j:=by omega
      have hjd:decide ((nl:Int) <(nl:Int))=false:=jf (by omega)
      go_wp2_with fail
      go_roundw
      case rel=>exact⟨k+1,⟨S.free,S.next,S.out++fs.filter (λf=>decide (f.name=x.1))⟩,u2,l2,_,cf,nf,hkn,by simp,rfl,hnf1,hnf2,HNF,HNS,jq (by
       rw[hm2,jW (by rw[HFS.out,jP,<-HNL.out];exact Nat.le_refl _)]),jq hP2⟩
      case measure=>simp[intOf];omega
   ·have hxin:x.1∈ch:=of_decide_eq_true HTI.out.symm;obtain⟨mm,hmm⟩:=jl (Mani.many x.2.length);have hsl:=slice_F gn on n nc k hkn hLc
    have hone:Lies w5 (some ⟨gn,on+k*2,none⟩) (flatP [x]):=by
     have hlt: (flatP L).length=L.length*2:=flatP_len L;rcases(HN.out.later HP.out.below)with h0|⟨g,o,e,hg,hcs⟩
     ·have h5:=congrArg List.length h0;rw[hlt,List.length_nil]at h5;have:=HNN.out
      omega
     ·cases e;refine .inr ⟨gn,on+k*2,rfl,hg,λi u hu=>?_⟩;rw[Nat.add_assoc];refine hcs _ u (flatP_at HX.out ?_);unfold flatP at hu
      simpa using hu
    have hpg:=pages_any (some ⟨gn,on+k*2,none⟩) (nc-k) [x] w5 hone (by simp) (λy hy=>by rw[jE.1 hy];exact HLB.out x (jM HX.out));have hpe:pagesP [x]=mm:=by rw[hmm,<-many_pages];unfold pagesP;simp
    rw[hpe]at hpg
    have hml:mm<=1000000:=by
     have:=HLB.out x (jM HX.out);rw[hmm,<-many_pages]
     omega
    have hrs:rplan fs ch (L.take (k+1)) st=if S.free.length<mm then none else some ⟨S.free.drop mm,S.next+1,S.out++ [rnew S x]⟩:=by
     rw[HSB.out];unfold rstep;rw[if_pos hxin,<-hmm]
    have HPG:Hid (Calls Tryz.prog 128 #[.slice (some ⟨gn,on+k*2,none⟩) 1 (nc-k)] w5 λe w'=>e=.returned (.int .i64 (mm:Int))/\w'=w5):=jq hpg;have HRS:=jq hrs;have HMM:=jq hmm;clear hone hpg hpe hmm hrs hxin c0 c1
    go_wp2_with fail
    refine HPG.out.mono ?_;rintro e w6 ⟨rfl,rfl⟩;clear hsl HPG;have q1:=HP.out.man.cell 1
    simp at q1
    by_cases hfm:nf<mm
    ·have hd:decide ((nf:Int) <(mm:Int))=true:=jd (by omega);have r0:=HP.out.res.frozen 0;have r1:=HP.out.res.frozen 1;have r2:=HP.out.res.frozen 2;have s0:=HP.out.res.cell 0;have s1:=HP.out.res.cell 1;have s2:=HP.out.res.cell 2
     simp at s0 s1 s2
     have hnone:rplan fs ch L st=none:=rplan_none fs ch (k:=k+1) (by rw[HRS.out,if_pos (by rw[<-HNF.out];exact hfm)]);have HNONE:=jq hnone;clear hnone
     go_wp2_with fail
     have hf:=((HP.out.res.set 0 (.int .u64 0)).set 1 (.int .u32 0)).set 2 (.slice none 0 0);have y0:=hf.cell 0;have y1:=hf.cell 1;have y2:=hf.cell 2;have hBf:Below w.heap.size w (((w6.setCell ⟨rb,0,none⟩ (.int .u64 0)).setCell ⟨rb,1,none⟩ (.int .u32 0)).setCell ⟨rb,2,none⟩ (.slice none 0 0)):=((HP.out.below.setCell HGX.out.2.1 _).setCell HGX.out.2.1 _).setCell HGX.out.2.1 _;obtain⟨Wf,hWf⟩:=jl ((((w6.setCell ⟨rb,0,none⟩ (.int .u64 0)).setCell ⟨rb,1,none⟩ (.int .u32 0)).setCell ⟨rb,2,none⟩ (.slice none 0 0)));rw[<-hWf]at y0 y1 y2 hBf⊢
     simp at y0 y1 y2
     refine bodyPost_ret (v:=.tuple #[.agg #[.int .u64 0,.int .u32 0,.slice none 0 0],.bool false]) (by simp[results,Tryz.f94,go_sem,y0,y1,y2]) rfl ?_;unfold Planned;rw[HNONE.out];exact⟨hBf,rfl⟩
    ·have hd:decide ((nf:Int) <(mm:Int))=false:=jf (by omega);have hd2: ((S.next:Int)==4294967295)=false:=by rw[beq_eq_false_iff_ne];have:=HO2.out;omega
     have hd3: (S.next==4294967295)=false:=by rw[beq_eq_false_iff_ne];have:=HO2.out;omega
     obtain⟨nxt,hnxt⟩:=jl S.next;rw[<-hnxt]at q1 hd2 hd3;have HNXT:=jq hnxt;clear hnxt
     go_wp2_with fail
     have hbw:Below w6.heap.size w6 w6.drew:=(Below.refl _ w6).drew;have hP6:=HP.out.later hbw;have hnow:=cells_at (HN.out.later hP6.below) HX.out;obtain⟨g3,o3,e3,c0,c1⟩:=hnow;cases e3;rw[HSX.out]at c0;rw[HSY.out]at c1;have hsyl:sy.size=x.2.length:=size_sv (show sv x.2=.string sy from HSY.out);obtain⟨xl,hxl⟩:=jl x.2.length;obtain⟨z,hz⟩:∃z:FR,z=⟨⟨x.1,nxt,sy.size,S.free.take mm⟩,af,mm⟩:=⟨_,rfl⟩;have htl: (S.free.take mm).length=mm:=by rw[jT,<-HNF.out];omega
     have hvs:z.vs= [.string sx,.int .u32 (nxt:Int),.int .i64 (sy.size:Int),.slice af mm mm]:=by
      rw[hz];unfold FR.vs iv;dsimp only;rw[show sv x.1=.string sx from HSX.out,htl]
     have hzf:z.f=rnew S x:=by
      rw[hz];unfold rnew;dsimp only;rw[hsyl,HNXT.out,HMM.out]
     have hzr:InRow w6.drew vF z:=by
      rw[hz];refine⟨?_,by dsimp only;rw[htl];exact Nat.le_refl _,hP6.fa⟩;dsimp only;rw[List.map_take];exact hP6.free.take mm
     have q1':=hP6.man.cell 1;have q2:=hP6.man.cell 2;simp only[jt,ja,jb]at q1' q2;rw[<-HNXT.out]at q1';obtain⟨v9,w9,hr9,hrow9,hg9⟩:=append_file w6.drew 32 u l' hP6.row z (by have:=HOL.out;omega) hP6.below.size;rw[hvs]at hr9
     have hP9:=hP6.rowed hg9 hrow9 (λy hy=>by
      rcases List.mem_append.1 hy with h1|h1
      ·exact .inl h1
      ·exact .inr (.inr (by rw[jE.1 h1];exact hzr)))
     obtain⟨au,cu,rfl,_,_,_,_⟩:=own_shape hP6.row;obtain⟨a9,c9,rfl,_,_,_,_⟩:=own_shape hrow9;obtain⟨n9,hn9⟩:=jl ((l'++ [z]).length);obtain⟨n2,hn2⟩:=jl l'.length;have hbn:nxt<4294967295:=by have:=HNXT.out;have:=HO2.out;omega
     have hsm:=slice_hm af nf cf mm (by omega);obtain⟨af2,hsl2,haf2,hLf2⟩:=slice_l af nf cf mm (by omega);have q2a: (w6.alloc (.cells #[.string sx,.int .u32 (nxt:Int),.int .i64 (sy.size:Int),.slice af mm mm] 96)).cell? ⟨q,2,none⟩=some (.slice au l'.length cu):=(((Below.refl _ w6).alloc jn _).cell (p:=⟨q,2,none⟩) hP6.man.lt).trans q2;have q1a: (w6.alloc (.cells #[.string sx,.int .u32 (nxt:Int),.int .i64 (sy.size:Int),.slice af mm mm] 96)).cell? ⟨q,1,none⟩=some (.int .u32 (nxt:Int)):=(((Below.refl _ w6).alloc jn _).cell (p:=⟨q,1,none⟩) hP6.man.lt).trans q1';have hPA:=hP9.set;have q4:=hPA.man.cell 1;have q4f:=hPA.man.frozen 1;have q3:=hP9.man.cell 2;have q3f:=hP9.man.frozen 2;simp only[jt,ja,jb]at q3 q4;rw[<-HNXT.out]at q4;have hPB:=hPA.nexts (nxt+1);have hPC:=hPB.drop (af':=af2) (cf':=cf-mm) (fr':=S.free.drop mm) (hLf2 _ S.free HNF.out.symm hnf2 hPB.free) haf2 (by rw[List.length_drop,<-HNF.out];omega)
     have hNX:rplan fs ch (L.take (k+1)) st=some ⟨S.free.drop mm,nxt+1,S.out++ [rnew S x]⟩:=by
      rw[HRS.out,if_neg (by rw[<-HNF.out];omega),HNXT.out]
     have hml: (l'++ [z]).map FR.f=S.out++ [rnew S x]:=by rw[List.map_append,HL.out];simp[hzf]
     have hnd:nf-mm=(S.free.drop mm).length:=by rw[List.length_drop,<-HNF.out]
     rw[<-hn9]at hr9 q4 q4f hPC;rw[<-hn2]at hr9 q2 q2a q3;have HPC:=jq hPC;have HNX:=jq hNX;have HML:=jq hml;have HND:=jq hnd;clear hP6 hbw hz hvs hzf hzr hrow9 hg9 hP9 hPA hPB hPC hNX hml hnd htl hsyl hxl hn9 hn2 haf2 hLf2
     go_region_law ((first|(refine step_append_run rfl (.tmp 83) (.tmp 102) 32 32 rfl _ _ rfl rfl hr9 ?_)))
     all_goals go_wp2_with fail
     all_goals exact⟨⟨k+1,⟨S.free.drop mm,nxt+1,S.out++ [rnew S x]⟩,_,l'++ [z],_,_,_,hkn,by simp,rfl,by omega,by omega,HND,HNX,HML,HPC⟩,by simp[intOf];omega⟩
  ·obtain rfl:n=k:=by omega
   have hkd:decide ((n:Int) <(n:Int))=false:=jf (by omega)
   go_wp2_with fail
   have hPn:=HP.out
   have hfull:rplan fs ch L st=some S:=by
    have:=HS.out;rw[jW (by rw[<-HNN.out];exact Nat.le_refl _)]at this;exact this
   obtain⟨hMO,hbo,hfb⟩:=HM.out S hfull;obtain⟨a9,c9,hu9,hF9,hg9,hx9⟩:=hPn.files HF.out;rw[<-HL.out]at hMO hbo hfb
   have hl9:l'.length<=300000:=by
    obtain⟨o1,_,_,_⟩:=rplan_len hfull;have hfsl:fs.length=nl:=by rw[HFS.out,jP,<-HNL.out]
    rw[hfsl,HST.out,<-HL.out,jP,<-HNN.out]at o1;have:n*(nl+1)<=100*2101:=Nat.mul_le_mul hL (by omega);simp only[List.length_nil,Nat.zero_add]at o1
    omega
   have hnx9:S.next<4294967296:=by
    obtain⟨_,o2,_,_⟩:=rplan_len hfull;rw[HST.out,<-HNN.out]at o2;dsimp only at o2
    omega
   have hmay:∀V,Below wr.heap.size wr V->_:=λV hV=>may09_yes (ver+1) S.next a9 c9 l' V (hF9.later hV) hMO (by omega) (λy hy=>hfb y.f (List.mem_map.2 ⟨y,hy,rfl⟩)) (by omega) hnx9 hbo
   obtain⟨rv,hrv⟩:=jl (decide ((bodyL (ver+1) S.next (l'.map FR.f)).length<=2035));obtain⟨nxt,hnxt⟩:=jl S.next;obtain⟨n2,hn2⟩:=jl l'.length;rw[<-hrv,<-hnxt,<-hn2]at hmay;have hbw:Below wr.heap.size wr wr.drew:=(Below.refl _ wr).drew;have hP5:=hPn.later hbw;rw[hu9,<-hnxt,<-hn2]at hP5;have hgr:=HGX.out.2.1;have hS0:wr.drew.cell? ⟨q,0,none⟩=some (.int .u64 ((ver:Int)+1))/\wr.drew.cell? ⟨q,1,none⟩=some (.int .u32 (nxt:Int))/\wr.drew.cell? ⟨q,2,none⟩=some (.slice a9 n2 c9)/\wr.drew.cell? ⟨xb,0,none⟩=some (.int .u64 (ver:Int)):=⟨hP5.man.cell 0,hP5.man.cell 1,hP5.man.cell 2,hP5.par.cell 0⟩;have hlt:decide ((ver:Int) <18446744073709551615)=true:=jd (by omega);have hlt2:decide (ver<18446744073709551615)=true:=jd (by omega);have HMAY:=jq (hmay wr.drew hbw);have HP5:=jq hP5
   have HFIN:Hid (∀(Wf:World),Below w.heap.size w Wf->FilesIn Wf a9 l'->wr.heap.size<=Wf.heap.size->Planned w l ver (rplan fs ch L st) (.returned (.tuple #[.agg #[.int .u64 ((ver+1:Nat):Int),.int .u32 (nxt:Int),.slice a9 n2 c9],.bool rv])) Wf):=jq (λWf hBf hFf hsz=>by
    unfold Planned;rw[hfull];refine⟨hBf,a9,c9,l',by rw[hn2,hnxt,hrv,HL.out],HL.out,hFf,λb hb=>?_,λy hy=>(hx9 y hy).imp id (λh4 b hb=>?_)⟩
    ·have:=hg9 b hb
     omega
    ·have:=h4 b hb
     omega)
   have HF9:=jq hF9;have HG9:=jq (And.intro hg9 hx9);clear hPn hfull hMO hbo hfb hu9 hF9 hg9 hx9 hl9 hnx9 hmay hrv hnxt hn2 hbw hP5
   go_region_held3 (λw'=>w'.cell? ⟨q,0,none⟩=some (.int .u64 ((ver:Int)+1))/\w'.cell? ⟨q,1,none⟩=some (.int .u32 (nxt:Int))/\w'.cell? ⟨q,2,none⟩=some (.slice a9 n2 c9)/\w'.cell? ⟨xb,0,none⟩=some (.int .u64 (ver:Int))) (first|exact hS0|exact hS1|exact hS2) (first|(go_at_call 104;refine HMAY.out.mono ?_;rintro e w10 ⟨rfl,hB10⟩;have hP10:=HP5.out.later hB10;have hS1:w10.cell? ⟨q,0,none⟩=some (.int .u64 ((ver:Int)+1))/\w10.cell? ⟨q,1,none⟩=some (.int .u32 (nxt:Int))/\w10.cell? ⟨q,2,none⟩=some (.slice a9 n2 c9)/\w10.cell? ⟨xb,0,none⟩=some (.int .u64 (ver:Int)):=⟨hP10.man.cell 0,hP10.man.cell 1,hP10.man.cell 2,hP10.par.cell 0⟩;have r0:=hP10.res.frozen 0;have r1:=hP10.res.frozen 1;have r2:=hP10.res.frozen 2;have s0:=hP10.res.cell 0;have s1:=hP10.res.cell 1;have s2:=hP10.res.cell 2;simp only[jt,ja,jb]at s0 s1 s2;have hP12:=((hP10.res.set 0 (.int .u64 ((ver:Int)+1))).set 1 (.int .u32 (nxt:Int))).set 2 (.slice a9 n2 c9);have hm12:=far_three hP10.man hP10.ne (.int .u64 ((ver:Int)+1)) (.int .u32 (nxt:Int)) (.slice a9 n2 c9);have hp12:=far_three hP10.par HGX.out.2.2 (.int .u64 ((ver:Int)+1)) (.int .u32 (nxt:Int)) (.slice a9 n2 c9);obtain⟨W12,hW12⟩:=jl ((((w10.setCell ⟨rb,0,none⟩ (.int .u64 ((ver:Int)+1))).setCell ⟨rb,1,none⟩ (.int .u32 (nxt:Int))).setCell ⟨rb,2,none⟩ (.slice a9 n2 c9)));have hS2: (((w10.setCell ⟨rb,0,none⟩ (.int .u64 ((ver:Int)+1))).setCell ⟨rb,1,none⟩ (.int .u32 (nxt:Int))).setCell ⟨rb,2,none⟩ (.slice a9 n2 c9)).cell? ⟨q,0,none⟩=some (.int .u64 ((ver:Int)+1))/\(((w10.setCell ⟨rb,0,none⟩ (.int .u64 ((ver:Int)+1))).setCell ⟨rb,1,none⟩ (.int .u32 (nxt:Int))).setCell ⟨rb,2,none⟩ (.slice a9 n2 c9)).cell? ⟨q,1,none⟩=some (.int .u32 (nxt:Int))/\(((w10.setCell ⟨rb,0,none⟩ (.int .u64 ((ver:Int)+1))).setCell ⟨rb,1,none⟩ (.int .u32 (nxt:Int))).setCell ⟨rb,2,none⟩ (.slice a9 n2 c9)).cell? ⟨q,2,none⟩=some (.slice a9 n2 c9)/\(((w10.setCell ⟨rb,0,none⟩ (.int .u64 ((ver:Int)+1))).setCell ⟨rb,1,none⟩ (.int .u32 (nxt:Int))).setCell ⟨rb,2,none⟩ (.slice a9 n2 c9)).cell? ⟨xb,0,none⟩=some (.int .u64 (ver:Int)):=⟨hm12.cell 0,hm12.cell 1,hm12.cell 2,hp12.cell 0⟩;have y0:=hP12.cell 0;have y1:=hP12.cell 1;have y2:=hP12.cell 2;clear hW12 W12;dsimp only))
   have hBf:Below w.heap.size w (((w10.setCell ⟨rb,0,none⟩ (.int .u64 ((ver:Int)+1))).setCell ⟨rb,1,none⟩ (.int .u32 (nxt:Int))).setCell ⟨rb,2,none⟩ (.slice a9 n2 c9)):=((hP10.below.setCell hgr _).setCell hgr _).setCell hgr _
   have hsz9:wr.heap.size<=(((w10.setCell ⟨rb,0,none⟩ (.int .u64 ((ver:Int)+1))).setCell ⟨rb,1,none⟩ (.int .u32 (nxt:Int))).setCell ⟨rb,2,none⟩ (.slice a9 n2 c9)).heap.size:=by
    have h5:=hB10.size;have h6:wr.heap.size<=w10.heap.size:=h5
    simpa[World.setCell]using h6
   have hU:Upon (λg=>g=rb) w10 (((w10.setCell ⟨rb,0,none⟩ (.int .u64 ((ver:Int)+1))).setCell ⟨rb,1,none⟩ (.int .u32 (nxt:Int))).setCell ⟨rb,2,none⟩ (.slice a9 n2 c9)):=(((Upon.refl (λg=>g=rb) w10).set (p:=⟨rb,0,none⟩) (.inl rfl) _).set (p:=⟨rb,1,none⟩) (.inl rfl) _).set (p:=⟨rb,2,none⟩) (.inl rfl) _;obtain⟨a8,c8,e8,hF8⟩:=hP10.files9 HF.out hU;injection e8 with e8 _ _;subst e8;have hend:=HFIN.out _ hBf hF8 hsz9;have HEND:=jq hend;clear hend hF8 hU hsz9 hBf hm12 hp12 hP12 hS0 hS1 hS2 hP10 hB10;obtain⟨Wf,hWf⟩:=jl ((((w10.setCell ⟨rb,0,none⟩ (.int .u64 ((ver:Int)+1))).setCell ⟨rb,1,none⟩ (.int .u32 (nxt:Int))).setCell ⟨rb,2,none⟩ (.slice a9 n2 c9)));rw[<-hWf]at y0 y1 y2 HEND⊢
   simp at y0 y1 y2
   go_wp2_with fail
   refine bodyPost_ret (v:=.tuple #[.agg #[.int .u64 ((ver:Int)+1),.int .u32 (nxt:Int),.slice a9 n2 c9],.bool rv]) (by simp[results,Tryz.f94,go_sem,y0,y1,y2]) rfl ?_;exact HEND.out
end RefF
namespace RefF
open Go.RowKit Mani Full Varint
open Store (Chg none' Files)
theorem filter_le_one {fs:List Fil} (hr:rises fs) (nm:List UInt8): (fs.filter (λf=>decide (f.name=nm))).length<=1:=by
 by_cases h:∃f∈fs,f.name=nm
 ·obtain⟨f,hf,rfl⟩:=h;rw[filter_one hr hf];exact Nat.le_refl _
 ·rw[List.filter_eq_nil_iff.2 (λf hf=>by
   simp
   exact λe=>h ⟨f,hf,e⟩)]
  exact Nat.zero_le _
theorem rplan_few {fs:List Fil} {ch:List (List UInt8)} (hr:rises fs):∀{L:List FF} {s s':RP},rplan fs ch L s=some s'->s'.out.length<=s.out.length+L.length
 | [],s,s',h=>by
  have h:some s=some s':=h;cases h
  omega
 |x ::r,s,s',h=>by
  rw[rplan_cons]at h
  cases ht:rstep fs ch x s with
  |none=>rw[ht]at h;cases h
  |some t=>
   rw[ht]at h;have h1:=rplan_few hr (L:=r) (s:=t) h
   have hs:t.out.length<=s.out.length+1:=by
    unfold rstep at ht
    split at ht
    ·split at ht
     ·cases ht
     ·cases ht
      simp
    ·cases ht;have:=filter_le_one hr x.1;rw[jL]
     omega
   rw[List.length_cons]
   omega
theorem nodup_le:∀{l m:List Nat},l.Nodup->(∀i∈l,i∈m)->l.length<=m.length
 | [],_,_,_=>Nat.zero_le _
 |a ::r,m,h,hm=>by
  obtain⟨h1,h2⟩:=List.nodup_cons.1 h;have ha:=hm a (by simp)
  have:=nodup_le (l:=r) (m:=m.erase a) h2 (λi hi=>by
   rw[List.mem_erase_of_ne (λe=>h1 (by rw[<-e];exact hi))];exact hm i (by simp[hi]))
  rw[List.length_erase_of_mem ha]at this;have h3:=List.length_pos_of_mem ha;rw[List.length_cons]
  omega
theorem vput_le {n:Nat} (h:n<18446744073709551616): (vput n).length<=10:=vput_length 9 n (by omega)
theorem blocksL_le:∀{l:List Nat},(∀i∈l,i<65536)->(blocksL l).length<=10*l.length
 | [],_=>Nat.le_refl _
 |a ::r,h=>by
  have h1:=blocksL_le (l:=r) (λi hi=>h i (by simp[hi]));have h2:=vput_le (n:=a) (by have:=h a (by simp);omega);unfold blocksL at h1⊢;rw[jC,jL,List.length_cons]
  omega
theorem files_le {next:Nat} (hn:next<=4294967296):∀{l:List Fil},(∀f∈l,FOk next f/\f.size<4294967296)->(l.flatMap filL).length<=62*l.length+10*(bksL l).length
 | [],_=>Nat.le_refl _
 |f ::r,h=>by
  have h1:=files_le hn (l:=r) (λg hg=>h g (by simp[hg]));obtain⟨h2,h3⟩:=h f (by simp);have a1:=vput_le (n:=f.name.length) (by have:=h2.n2;omega);have a2:=vput_le (n:=f.id) (by have:=h2.id;omega);have a3:=vput_le (n:=f.size) (by omega);have a4:=blocksL_le (l:=f.blocks) (λi hi=>(h2.blocks i hi).2);have a5:=h2.n2;have e: (bksL (f ::r)).length=f.blocks.length+(bksL r).length:=by unfold bksL;rw[jC,jL]
  have e2: (filL f).length=(vput f.name.length).length+(f.name.length+((vput f.id).length+((vput f.size).length+(blocksL f.blocks).length))):=by
   unfold filL;simp only[jL]
  rw[jC,jL,List.length_cons,e,e2]
  omega
theorem RInv.bounds {n next:Nat} {fs:List Fil} {s:RP} (h:RInv n fs next [] s) (hf:s.out.length<=2000) (hn:s.next<=4294967296) {ver:Nat} (hv:ver<18446744073709551616): (bodyL ver s.next s.out).length<=900000/\∀f∈s.out,f.blocks.length<=1000000/\f.size<=1000000000:=by
 have hin:∀i∈bksL s.out,i<65536:=λi hi=>by
  obtain⟨f,hff,hi⟩:=List.mem_flatMap.1 hi;exact((h.each f hff).blocks i hi).2
 have hb: (bksL s.out).length<=65536:=by
  have:=nodup_le (m:=List.range 65536) h.bks (λi hi=>List.mem_range.2 (hin i hi))
  rwa [List.length_range]at this
 have hs:∀f∈s.out,f.blocks.length<=65536/\f.size<=65536*112:=λf hff=>by
  have h1:=bksL_mem (l:=s.out) hff;have h2:=many_le (h.each f hff).many;refine⟨by omega,?_⟩;have:f.blocks.length*112<=65536*112:=Nat.mul_le_mul_right _ (by omega)
  omega
 refine⟨?_,λf hff=>by have:=hs f hff;omega⟩;have hfl:=files_le hn (l:=s.out) (λf hff=>⟨h.each f hff,by have:=(hs f hff).2;omega⟩);have a1:=vput_le hv;have a2:=vput_le (n:=s.next) (by omega);have a3:=vput_le (n:=s.out.length) (by omega);unfold bodyL;simp only[jL]
 omega
theorem plan_facts {C:Chg} {H:Files} {ch ss:List (List UInt8)} {l:List FF} {bl:List (List UInt8)} {n ver next:Nat} {fs:List Fil} (hok:Okm n ver next fs) (hn:n<=65536) (h32:32<=n) (hd:OnDisk bl fs H) (hl:IsRow l (nowF C H)) (hc:ChOk C ch) (hK:Keys C ss) (hll:l.length<=100) (hnx:next+l.length<4294967295) (hv:ver<18446744073709551615) (hx:∀x∈l,1<=x.1.length/\x.1.length<=32):
  (∀s,rplan fs ch l ⟨freeB n fs,next,[]⟩=some s->MOk s.next none [] [] s.out/\(bodyL (ver+1) s.next s.out).length<=900000/\∀f∈s.out,f.blocks.length<=1000000/\f.size<=1000000000)/\
  planM C ss n ver next fs=(match rplan fs ch l ⟨freeB n fs,next,[]⟩with
   |none=>none
   |some s=>if(bodyL (ver+1) s.next s.out).length<=2035 then some (s.next,s.out)else none):=by
 obtain⟨h1,h2⟩:=plan_ref hok hn h32 hd hl hc hK (by omega) hv hx;refine⟨λs hs=>?_,h1⟩;have hI:=h2 s hs;have hfew:=rplan_few hok.ok.rise hs;obtain⟨_,o2,_,_⟩:=rplan_len hs;dsimp only at hfew o2;rw[List.length_nil]at hfew;obtain⟨b1,b2⟩:=hI.bounds (by omega) (by omega) (ver:=ver+1) (by omega);exact⟨hI.mok,b1,b2⟩
end RefF
namespace Full
open Go.RowKit Go.Deep Mem Crc Go.Maps Dk Mani RefF
open Store (Chg none' nv Files setC setC_same setC_other)
open Ext (Tab)
def PlanAns (w:World) (S:PD) (o:Option (Nat×List Fil)) (e:Ending) (w':World):Prop:=
 Below w.heap.size w w'/\match o with
  |none=>∃(x y:Int) (a:Option Addr) (k c:Nat),e=.returned (.tuple #[.agg #[.int .u64 x,.int .u32 y,.slice a k c],.bool false])
  |some q=>∃(a':Option Addr) (c':Nat) (l':List FR),e=.returned (.tuple #[.agg #[.int .u64 ((S.ver+1:Nat):Int),.int .u32 (q.1:Int),.slice a' l'.length c'],.bool true])/\l'.map FR.f=q.2/\FilesIn w' a' l'/\(∀b,Mem.blk a'=some b->w.heap.size<=b/\b<w'.heap.size)/\∀y∈l',y∈S.l\/∀b,Mem.blk y.a=some b->w.heap.size<=b/\b<w'.heap.size
theorem planned_ans {w w':World} {S:PD} {o:Option RP} {e:Ending} {q:Option (Nat×List Fil)} (hq:q=(match o with
   |none=>none
   |some s=>if(bodyL (S.ver+1) s.next s.out).length<=2035 then some (s.next,s.out)else none)) (h:RefF.Planned w S.l S.ver o e w'):PlanAns w S q e w'/\∃(x y:Int) (a:Option Addr) (k c:Nat) (b:Bool),e=.returned (.tuple #[.agg #[.int .u64 x,.int .u32 y,.slice a k c],.bool b]):=by
 obtain⟨h1,h2⟩:=h
 cases o with
 |none=>
  dsimp only at hq h2;subst hq;exact⟨⟨h1,0,0,none,0,0,h2⟩,0,0,none,0,0,false,h2⟩
 |some s=>
  dsimp only at hq h2;obtain⟨a',c',l',h3,h4⟩:=h2
  by_cases hb: (bodyL (S.ver+1) s.next s.out).length<=2035
  ·rw[if_pos hb]at hq;subst hq;rw[jd hb]at h3;exact⟨⟨h1,a',c',l',h3,h4⟩,_,_,_,_,_,_,h3⟩
  ·rw[if_neg hb]at hq;subst hq;rw[jf hb]at h3;exact⟨⟨h1,_,_,_,_,_,h3⟩,_,_,_,_,_,_,h3⟩
theorem PlanAns.up {w W1 w3 wf:World} {S:PD} {q:Option (Nat×List Fil)} {e:Ending} {rb:Nat} (h:PlanAns W1 S q e w3) (hF:FilesIn w S.a S.l) (hB:Below w.heap.size w W1) (hr:w.heap.size<=rb) (hr2:rb<W1.heap.size) (hu:Upon (λg=>g=rb) w3 wf):PlanAns w S q e wf:=by
 obtain⟨h1,h2⟩:=h;have hz:=hB.size;have hz1:=h1.size;have hz2:=hu.size;have hB3:Below w.heap.size w w3:=hB.trans (h1.mono hz);have hBf:Below w.heap.size w wf:=hB3.trans (hu.below (by omega) (λg hg=>by omega));refine⟨hBf,?_⟩
 cases q with
 |none=>exact h2
 |some q=>
  obtain⟨a',c',l',h3,h4,h5,h6,h7⟩:=h2;refine⟨a',c',l',h3,h4,⟨h5.row.upon hu (λg hg e=>by have:=h6 g hg;omega),λy hy=>?_⟩,λb hb=>by have:=h6 b hb;omega,λy hy=>(h7 y hy).imp id (λh8 b hb=>by have:=h8 b hb;omega)⟩;rcases h7 y hy with h8|h8
  ·exact⟨(hF.blocks y h8).1.later hBf,(hF.blocks y h8).2⟩
  ·exact⟨(h5.blocks y hy).1.upon hu (λg hg e=>by have:=h8 g hg;omega),(h5.blocks y hy).2⟩
theorem far_three {W:World} {g rb:Nat} {t:TypeId} {cs:Array Value} (h:Blk W g t cs) (hn:g≠rb) (v0 v1 v2:Value):Blk (((W.setCell ⟨rb,0,none⟩ v0).setCell ⟨rb,1,none⟩ v1).setCell ⟨rb,2,none⟩ v2) g t cs:=((h.far (p:=⟨rb,0,none⟩) hn v0).far (p:=⟨rb,1,none⟩) hn v1).far (p:=⟨rb,2,none⟩) hn v2
variable {Z:Prop} {B p cnt i:Nat} {w w':World} {S:PD}
theorem Play.cells (h:Play Z B p cnt i w S):w.cell? ⟨p,0,none⟩=some (.pointer (some ⟨S.s,0,none⟩))/\w.cell? ⟨p,1,none⟩=some (.pointer (some ⟨S.d,0,none⟩))/\w.cell? ⟨p,2,none⟩=some (.int .u64 (S.ver:Int))/\w.cell? ⟨p,3,none⟩=some (.int .u32 (S.next:Int))/\w.cell? ⟨p,4,none⟩=some (.slice S.a S.l.length S.c)/\w.cell? ⟨p,5,none⟩=some (.slice S.ah S.LH.length S.hc)/\w.cell? ⟨p,6,none⟩=some (.slice S.an S.L.length S.nc)/\w.cell? ⟨p,7,none⟩=some S.vc/\w.cell? ⟨p,8,none⟩=some (.bool S.wt):=by
 refine⟨?_,?_,?_,?_,?_,?_,?_,?_,?_⟩ <;> rw[h.blk.cell] <;> rfl
theorem Play.count (h:Play Z B p cnt i w S):Calls Tryz.prog 49 #[.pointer (some ⟨S.d,0,none⟩)] w λe w'=>e=.returned (.int .i64 (cnt:Int))/\w'=w:=by
 obtain⟨wv,a,c,l,hf,_⟩:=h.on.fu;have:=count_any hf.disk;rw[h.len]at this;exact this
attribute [local go_sem] Oper.semAt_some
theorem play_plan (h:Play Z B p cnt i w S) (hi:i<=60) {ss:List (List UInt8)} (hK:Keys S.C ss):
  Calls Tryz.prog 62 #[.pointer (some ⟨p,0,none⟩)] w (PlanAns w S (planM S.C ss cnt S.ver S.next S.fs)):=by
 have hbig:=h.on.big;rw[h.len]at hbig;have hsm:=h.on.small;rw[h.len]at hsm;have hok:=h.on.ok;rw[h.len]at hok;have hvi:=h.vi;have hni:=h.ni;have hll:=h.ll;have hn100:100*i<=6000:=by omega
 obtain⟨f1,f2⟩:=plan_facts (ch:=S.ch) hok hsm (by omega) h.on.on h.rowN h.chok hK (by omega) (by omega) (by omega) (λx hx=>(h.each x hx).1);have hfl:=h.fl;have hfew:=hok.few;have hll2:S.l.length=S.fs.length:=by rw[<-hfl,jP]
 obtain⟨va,vcc,hvc,_,hvL,_,_⟩:=own_shape h.own
 have hplan:∀V,Below w.heap.size w V->_:=λV hV=>plan10_any S.ver S.next S.a S.c S.l cnt S.an S.nc S.L va vcc S.ch V (h.files.later hV) (h.nl.later hV) (hvL.later hV) (by omega) (λx hx=>by
  have hm:x.f∈S.fs:=by rw[<-hfl];exact List.mem_map.2 ⟨x,hx,rfl⟩
  have:=bksL_mem (l:=S.fs) hm;exact⟨by omega,hok.in_ x.f hm⟩) hbig hsm (by omega) h.capN (λx hx=>by have:=(h.each x hx).2;omega) (by have:=h.chl;omega) (by omega) (by omega) (by rw[hfl];exact f1)
 rw[hfl]at hplan;obtain⟨c0,c1,c2,c3,c4,c5,c6,c7,c8⟩:=h.cells;rw[hvc]at c7;obtain⟨W1,hW1⟩:=jl (w.alloc (.cells #[.int .u64 0,.int .u32 0,.slice none 0 0] 34));have hB1:Below w.heap.size w W1:=by rw[hW1];exact(Below.refl _ w).alloc jn _
 obtain⟨rb,hrb⟩:=jl w.heap.size;have hbr:Blk W1 rb 34 #[.int .u64 0,.int .u32 0,.slice none 0 0]:=by rw[hW1,hrb];exact Blk.new w _ _
 have hpl:=h.blk.lt;have hP1:=h.later hB1;obtain⟨o,ho⟩:=jl (rplan S.fs S.ch S.L ⟨freeB cnt S.fs,S.next,[]⟩);rw[<-ho]at hplan f2;obtain⟨q,hq⟩:=jl (planM S.C ss cnt S.ver S.next S.fs);rw[<-hq]at f2⊢;have hfin:∀e w',RefF.Planned W1.drew S.l S.ver o e w'->PlanAns W1.drew S q e w'/\∃(x y:Int) (a:Option Addr) (k c:Nat) (b:Bool),e=.returned (.tuple #[.agg #[.int .u64 x,.int .u32 y,.slice a k c],.bool b]):=λe w' hh=>planned_ans f2 hh
 obtain⟨d0,d1,d2,d3,d4,d5,d6,d7,d8⟩:=hP1.cells;rw[hvc]at d7;have hct:Calls Tryz.prog 49 #[.pointer (some ⟨S.d,0,none⟩)] W1.drew λe w'=>e=.returned (.int .i64 (cnt:Int))/\w'=W1.drew:=(hP1.later (Below.refl _ W1).drew).count
 have hpc:=hplan W1.drew (hB1.drew);obtain⟨sd,hsd⟩:=jl S.d;obtain⟨sv,hsv⟩:=jl S.ver;obtain⟨sn,hsn⟩:=jl S.next;obtain⟨sl,hsl⟩:=jl S.l.length;obtain⟨sL,hsL⟩:=jl S.L.length;obtain⟨sh,hsh⟩:=jl S.ch.length;obtain⟨sa,hsa⟩:=jl S.a;obtain⟨sc,hsc⟩:=jl S.c;obtain⟨sN,hsN⟩:=jl S.an;obtain⟨sM,hsM⟩:=jl S.nc;rw[<-hsd]at d1 hct;rw[<-hsv]at d2 hpc hfin;rw[<-hsn]at d3 hpc;rw[<-hsl,<-hsa,<-hsc]at d4 hpc;rw[<-hsL,<-hsN,<-hsM]at d6 hpc;rw[<-hsh]at d7 hpc;have HP1:=jq hP1;have HBR:=jq hbr;have HB1:=jq hB1;have HCT:=jq hct;have HPC:=jq hpc;have HFIN:=jq hfin;have HSV:=jq hsv;have hpne:p≠rb:=by omega
 have HRB:=jq (And.intro (show w.heap.size<=rb by omega) hbr.lt);have HF:=jq h.files;obtain⟨cs,hcs⟩:=jl S.cells;have hpb:Blk W1.drew p 38 cs:=by rw[hcs];exact hP1.blk
 have e1:cs[1]? =some (.pointer (some ⟨sd,0,none⟩)):=by rw[hcs,hsd];rfl
 have e2:cs[2]? =some (.int .u64 (sv:Int)):=by rw[hcs,hsv];rfl
 have e3:cs[3]? =some (.int .u32 (sn:Int)):=by rw[hcs,hsn];rfl
 have e4:cs[4]? =some (.slice sa sl sc):=by rw[hcs,hsa,hsl,hsc];rfl
 have e6:cs[6]? =some (.slice sN sL sM):=by rw[hcs,hsN,hsL,hsM];rfl
 have e7:cs[7]? =some (.slice va sh vcc):=by rw[hcs,hsh,<-hvc];rfl
 have hcell:∀W,Blk W p 38 cs->W.cell? ⟨p,1,none⟩=some (.pointer (some ⟨sd,0,none⟩))/\W.cell? ⟨p,2,none⟩=some (.int .u64 (sv:Int))/\W.cell? ⟨p,3,none⟩=some (.int .u32 (sn:Int))/\W.cell? ⟨p,4,none⟩=some (.slice sa sl sc)/\W.cell? ⟨p,6,none⟩=some (.slice sN sL sM)/\W.cell? ⟨p,7,none⟩=some (.slice va sh vcc):=λW hW=>⟨(hW.cell 1).trans e1,(hW.cell 2).trans e2,(hW.cell 3).trans e3,(hW.cell 4).trans e4,(hW.cell 6).trans e6,(hW.cell 7).trans e7⟩
 have HCELL:=jq hcell;have HPB:=jq hpb;have hS0:W1.drew.cell? ⟨p,1,none⟩=some (.pointer (some ⟨sd,0,none⟩))/\W1.drew.cell? ⟨p,2,none⟩=some (.int .u64 (sv:Int))/\W1.drew.cell? ⟨p,3,none⟩=some (.int .u32 (sn:Int))/\W1.drew.cell? ⟨p,4,none⟩=some (.slice sa sl sc)/\W1.drew.cell? ⟨p,6,none⟩=some (.slice sN sL sM)/\W1.drew.cell? ⟨p,7,none⟩=some (.slice va sh vcc):=⟨d1,d2,d3,d4,d6,d7⟩;clear h hK hok hvi hni hll hn100 f1 f2 hfl hfew hll2 hvc hvL hplan c0 c1 c2 c3 c4 c5 c6 c7 c8 hB1 hbr hpl hP1 ho hq hfin d0 d1 d2 d3 d4 d5 d6 d7 d8 hct hpc hsd hsv hsn hsl hsL hsh hsa hsc hsN hsM hbig hsm hi hcs hpb e1 e2 e3 e4 e6 e7 hcell
 go_enter Tryz.func62,Tryz.ntmps62
 go_wp2_with fail
 rw[<-hW1,<-hrb];clear hW1 hrb
 go_region_held3 (λw'=>w'.cell? ⟨p,1,none⟩=some (.pointer (some ⟨sd,0,none⟩))/\w'.cell? ⟨p,2,none⟩=some (.int .u64 (sv:Int))/\w'.cell? ⟨p,3,none⟩=some (.int .u32 (sn:Int))/\w'.cell? ⟨p,4,none⟩=some (.slice sa sl sc)/\w'.cell? ⟨p,6,none⟩=some (.slice sN sL sM)/\w'.cell? ⟨p,7,none⟩=some (.slice va sh vcc)) (first|exact hS0|exact hS1|exact hS2) (first|(go_at_call 49;refine HCT.out.mono ?_;rintro e w1 ⟨rfl,rfl⟩;dsimp only)|(go_at_call 94;refine HPC.out.mono ?_;intro e w3 hh;obtain⟨hans,x,y,a3,k3,c3,b3,rfl⟩:=HFIN.out e w3 hh;have hB3:=hans.1;have hpb3:=HPB.out.below hB3 HPB.out.lt;have hS1:=HCELL.out _ hpb3;have hb3':=HBR.out.drew.below hB3 HBR.out.lt;have r0:=hb3'.frozen 0;have r1:=hb3'.frozen 1;have r2:=hb3'.frozen 2;have s0:=hb3'.cell 0;have s1:=hb3'.cell 1;have s2:=hb3'.cell 2;simp only[jt,ja,jb]at s0 s1 s2;have hpb4:=far_three hpb3 hpne (.int .u64 x) (.int .u32 y) (.slice a3 k3 c3);have hS2:=HCELL.out _ hpb4;have hr3:=((hb3'.set 0 (.int .u64 x)).set 1 (.int .u32 y)).set 2 (.slice a3 k3 c3);have y0:=hr3.cell 0;have y1:=hr3.cell 1;have y2:=hr3.cell 2;dsimp only))
 have hU:Upon (λg=>g=rb) w3 (((w3.setCell ⟨rb,0,none⟩ (.int .u64 x)).setCell ⟨rb,1,none⟩ (.int .u32 y)).setCell ⟨rb,2,none⟩ (.slice a3 k3 c3)):=(((Upon.refl (λg=>g=rb) w3).set (p:=⟨rb,0,none⟩) (.inl rfl) _).set (p:=⟨rb,1,none⟩) (.inl rfl) _).set (p:=⟨rb,2,none⟩) (.inl rfl) _;have hend:=hans.up HF.out HB1.out.drew HRB.out.1 (show rb<W1.drew.heap.size from HRB.out.2) hU;have HEND:=jq hend;clear hend hU hpb3 hS0 hS1 hS2 hb3' hpb4 hr3 hB3;obtain⟨Wf,hWf⟩:=jl ((((w3.setCell ⟨rb,0,none⟩ (.int .u64 x)).setCell ⟨rb,1,none⟩ (.int .u32 y)).setCell ⟨rb,2,none⟩ (.slice a3 k3 c3)));rw[<-hWf]at y0 y1 y2 HEND⊢
 simp at y0 y1 y2
 clear hWf
 go_wp2_with fail
 refine bodyPost_ret (v:=.tuple #[.agg #[.int .u64 x,.int .u32 y,.slice a3 k3 c3],.bool b3]) (by simp[results,Tryz.f62,go_sem,y0,y1,y2]) rfl ?_;exact HEND.out
end Full
namespace Full
open Go.RowKit Go.Deep Mem Crc Go.Maps Dk Mani RefF
open Store (Chg none' nv Files setC setC_same setC_other)
open Ext (Tab)
variable {Z:Prop} {B p cnt i:Nat} {w w':World} {S:PD}
theorem Play.next_le (h:Play Z B p cnt i w S) (hi:i<=60) {ss:List (List UInt8)} (hK:Keys S.C ss) {q:Nat×List Fil} (hq:planM S.C ss cnt S.ver S.next S.fs=some q):q.1<=S.next+S.L.length:=by
 have hbig:=h.on.big;rw[h.len]at hbig;have hsm:=h.on.small;rw[h.len]at hsm;have hok:=h.on.ok;rw[h.len]at hok;have hvi:=h.vi;have hni:=h.ni;have hll:=h.ll;obtain⟨f1,f2⟩:=plan_facts (ch:=S.ch) hok hsm (by omega) h.on.on h.rowN h.chok hK (by omega) (by omega) (by omega) (λx hx=>(h.each x hx).1);rw[hq]at f2;cases ho:rplan S.fs S.ch S.L ⟨freeB cnt S.fs,S.next,[]⟩with
 |none=>rw[ho]at f2;cases f2
 |some s=>
  rw[ho]at f2;dsimp only at f2;obtain⟨_,o2,_,_⟩:=rplan_len ho
  split at f2
  ·injection f2 with f2;rw[f2];exact o2
  ·cases f2
theorem Play.same (h:Play Z B p cnt i w S) {j:Nat} (hj:i<=j) (hB:Below w.heap.size w w'):Step Z B p cnt j S w w':=⟨S,(h.later hB).mono hj,⟨λ_ hk=>.inl hk,λ_ hk=>.inl hk⟩,Upon.of_below hB⟩
theorem Play.committed (h:Play Z B p cnt i w S) (hu:Upon (S.D p) w w') {Q':Nat->Prop} {m':DM} {next':Nat} {fs':List Fil} {a':Option Addr} {c':Nat} {l':List FR} {vc':Value}
  (on:On B S.s S.d S.g S.cm w' Q' m' (S.ver+1) next' fs' none' (nowF S.C S.H) (i+1)) (sl:Slots m'.bl (S.ver+1) next' fs') (len:m'.bl.length=cnt) (hq:∀k,Q' k->S.Q k\/w.heap.size<=k)
  (blk:Blk w' p 38 #[.pointer (some ⟨S.s,0,none⟩),.pointer (some ⟨S.d,0,none⟩),.int .u64 ((S.ver+1:Nat):Int),.int .u32 (next':Int),.slice a' l'.length c',.slice S.an S.L.length S.nc,.slice S.an S.L.length S.nc,vc',.bool false])
  (hv:∀k,vc'.ownBlock=some k->¬Q' k/\w.heap.size<=k) (own:w'.ownsRow B 9 1 vc' 0 []) (fl:l'.map FR.f=fs') (files:FilesIn w' a' l')
  (fa:∀k,Mem.blk a'=some k->w.heap.size<=k/\k<w'.heap.size/\¬Q' k/\vc'.ownBlock≠some k) (fb:∀y∈l',y∈S.l\/∀k,Mem.blk y.a=some k->w.heap.size<=k/\k<w'.heap.size/\¬Q' k/\vc'.ownBlock≠some k) (hn:next'<=S.next+S.L.length) (hi:i<=60) (hfz:Z->m'.fuse<0):
  Step Z B p cnt (i+1) S w w':=by
 have hd:∀k,PD.D {S with Q:=Q',m:=m',ver:=S.ver+1,next:=next',fs:=fs',C:=none',H:=nowF S.C S.H,LH:=S.L,ch:=[],wt:=false,a:=a',c:=c',l:=l',ah:=S.an,hc:=S.nc,vc:=vc'} p k->S.D p k\/w.heap.size<=k:=λk hk=>by
  rcases hk with hk|rfl|hk
  ·exact(hq k hk).imp (λh1=>.inl h1) id
  ·exact .inl (.inr (.inl rfl))
  ·exact .inr (hv k hk).2
 have hpl:=h.blk.lt;have hlow:=h.on.low;obtain⟨n1,n2⟩:=h.keepN hu hd
 have hnew:∀{a:Option Addr},(∀k,Mem.blk a=some k->w.heap.size<=k/\k<w'.heap.size/\¬Q' k/\vc'.ownBlock≠some k)->Away B (PD.D {S with Q:=Q',m:=m',ver:=S.ver+1,next:=next',fs:=fs',C:=none',H:=nowF S.C S.H,LH:=S.L,ch:=[],wt:=false,a:=a',c:=c',l:=l',ah:=S.an,hc:=S.nc,vc:=vc'} p) w' a:=λha k hk=>by
  obtain⟨h1,h2,h3,h4⟩:=ha k hk;refine⟨λhD=>?_,by omega,h2⟩;rcases hD with hD|rfl|hD
  ·exact h3 hD
  ·omega
  ·exact h4 hD
 have hm:=h.mono (Nat.le_succ i);have hvi:=h.vi;have hni:=h.ni;have hll:=h.ll;refine⟨{S with Q:=Q',m:=m',ver:=S.ver+1,next:=next',fs:=fs',C:=none',H:=nowF S.C S.H,LH:=S.L,ch:=[],wt:=false,a:=a',c:=c',l:=l',ah:=S.an,hc:=S.nc,vc:=vc'},?_,⟨hd,λk hk=>?_⟩,hu⟩
 rotate_left
 ·rcases hk with hk|hk|⟨x,hx,hk⟩|hk|hk
  ·exact(hd k hk).imp (λh1=>.inl h1) id
  ·exact .inr (fa k hk).1
  ·exact(fb x hx).elim (λh1=>.inl (.inr (.inr (.inl ⟨x,h1,hk⟩)))) (λh1=>.inr (h1 k hk).1)
  ·exact .inl (.inr (.inr (.inr (.inr hk))))
  ·exact .inl (.inr (.inr (.inr (.inr hk))))
 exact⟨on,hfz,sl,len,blk,λhk=>(hq p hk).elim h.pq (λh4=>by omega),h.pb,λk hk=>(hv k hk).1,own,fl,files,hnew fa,λy hy=>(fb y hy).elim (λh1=>(h.fb y h1).step hu.size hd) (λh1=>hnew h1),n1,n2,n1,n2,h.rowN,(by dsimp only;rw[nowF_none];exact h.rowN),⟨(λx hx=>(by cases hx)),(λx b hx=>(by cases hx))⟩,⟨(λ_ _=>rfl),(λ_=>rfl)⟩,by dsimp only;omega,by dsimp only;omega,Nat.zero_le _,hm.ll,hm.ll,hm.each,hm.each,h.capN,h.capN⟩
end Full
namespace Full
open Go.RowKit Go.Deep Mem Crc Go.Maps Dk Mani RefF
open Store (Chg none' nv Files setC setC_same setC_other)
open Ext (Tab)
variable {Z:Prop} {B p cnt i:Nat} {w w':World} {S:PD}
theorem PlanAns.shape {w w':World} {S:PD} {q:Option (Nat×List Fil)} {e:Ending} (h:PlanAns w S q e w'):∃(x y:Int) (a:Option Addr) (k c:Nat),e=.returned (.tuple #[.agg #[.int .u64 x,.int .u32 y,.slice a k c],.bool q.isSome]):=by
 obtain⟨_,h2⟩:=h
 cases q with
 |none=>exact h2
 |some q=>
  obtain⟨a',c',l',h3,_⟩:=h2;exact⟨_,_,_,_,_,h3⟩
structure Fallen (B p:Nat) (S:PD) (q:Nat×List Fil) (w w':World):Prop where
 up:Upon S.Q w w'
 blk:Blk w' p 38 S.cells
 off: (afterD S.m S.C S.ver q).off=true
 bad: (commitD S.m S.C q.2 (S.ver+1) (manL (S.ver+1) q.1 q.2)).2≠0
 disk:∃wv,Dk w' S.d S.g wv (afterD S.m S.C S.ver q)/\∀k,Has S.d S.g wv k->S.Q k\/w.heap.size<=k
def CommitsAns (Z:Prop) (B p cnt i:Nat) (S:PD) (ss:List (List UInt8)) (w:World) (e:Ending) (w':World):Prop:=
 (∃k:Int,e=.returned (.tuple #[.bool true,.int .i64 k])/\(k==6)=false/\Step Z B p cnt (i+1) S w w')\/
 (e=.returned (.tuple #[.bool true,.int .i64 6])/\S.wt=true/\∃q,planM S.C ss cnt S.ver S.next S.fs=some q/\Fallen B p S q w w')
attribute [local go_sem] Oper.semAt_some
theorem play_commits_fall (h:Play Z B p cnt i w S) (hi:i<=59) {ss:List (List UInt8)} (hK:Keys S.C ss):
  Calls Tryz.prog 44 #[.pointer (some ⟨p,0,none⟩)] w (CommitsAns Z B p cnt i S ss w):=by
 have hPL:=play_plan h (by omega) hK;have hpl:=h.blk.lt
 by_cases hw:S.wt=false
 ·have hC:∀nm,S.C nm=none:=h.wts.1 hw;have HPL:=jq hPL;have HP:=jq h;have HC:=jq hC;have HW:=jq hw;clear h hK hPL hC hw
  go_enter Tryz.func44,Tryz.ntmps44
  go_wp2_with fail
  refine HPL.out.mono ?_;intro e w1 hans;obtain⟨x,y,a,k,c,rfl⟩:=hans.shape;have hB1:=hans.1;obtain⟨W2,hW2⟩:=jl (w1.alloc (.cells #[.int .u64 x,.int .u32 y,.slice a k c] 34));have hB2:Below w.heap.size w W2:=by rw[hW2];exact hB1.alloc hB1.size _
  have hP2:=HP.out.later hB2;have hcm:=on_commit_none hP2.on HC.out;obtain⟨c0,_,_,_,_,_,_,_,c8⟩:=hP2.cells;rw[HW.out]at c8;obtain⟨sd,hsd⟩:=jl S.s;obtain⟨qs,hqs⟩:=jl ((planM S.C ss cnt S.ver S.next S.fs).isSome);rw[<-hqs];rw[<-hsd]at c0 hcm;have e8:=c8;rw[hW2]at c0;have HCM:=jq hcm;have HEND:=jq (HP.out.same (j:=i+1) (by omega) hB2);clear hans hB1 hB2 hP2 hcm hsd hqs c8
  go_wp2_with fail
  rw[<-hW2];clear hW2 c0;refine HCM.out.mono ?_;rintro e w3 ⟨rfl,rfl⟩
  go_wp2_with fail
  go_ret2
  exact .inl ⟨0,rfl,rfl,HEND.out⟩
 ·have hC:¬∀nm,S.C nm=none:=λhc=>hw (h.wts.2 hc)
  have hwt:S.wt=true:=by cases hb:S.wt <;> simp_all
  obtain⟨pm,hpm⟩:=jl (planM S.C ss cnt S.ver S.next S.fs);rw[<-hpm]at hPL;have HPL:=jq hPL;have HP:=jq h;have HC:=jq hC;have HW:=jq hwt;have HK:=jq hK;have HPM:=jq hpm;clear h hK hPL hC hwt hw hpm
  cases pm with
  |none=>
   go_enter Tryz.func44,Tryz.ntmps44
   go_wp2_with fail
   refine HPL.out.mono ?_;intro e w1 hans;obtain⟨x,y,a,k,c,rfl⟩:=hans.shape;have hB1:=hans.1;obtain⟨W2,hW2⟩:=jl (w1.alloc (.cells #[.int .u64 x,.int .u32 y,.slice a k c] 34));have hB2:Below w.heap.size w W2:=by rw[hW2];exact hB1.alloc hB1.size _
   have hP2:=HP.out.later hB2;have hcm:=on_commit_fall hP2.on (by omega) HK.out HC.out;rw[hP2.len,<-HPM.out]at hcm;unfold CommitFall at hcm;dsimp only at hcm;obtain⟨c0,_,_,_,_,_,_,_,_⟩:=hP2.cells;obtain⟨sd,hsd⟩:=jl S.s;have HP2:=jq hP2;rw[<-hsd]at c0 hcm;rw[hW2]at c0;have HCM:=jq hcm;have HB2:=jq hB2;clear hans hB1 hB2 hP2 hcm hsd
   go_wp2_with fail
   rw[<-hW2];clear hW2 c0;refine HCM.out.mono ?_;rintro e w3 ⟨rfl,hB3⟩;obtain⟨_,_,_,_,_,_,_,_,c8⟩:=(HP2.out.later hB3).cells;rw[HW.out]at c8;have HEND:=jq (HP.out.same (j:=i+1) (by omega) (HB2.out.trans (hB3.mono HB2.out.size)));clear hB3
   go_wp2_with fail
   go_ret2
   exact .inl ⟨7,rfl,rfl,HEND.out⟩
  |some q=>
   go_enter Tryz.func44,Tryz.ntmps44
   go_wp2_with fail
   refine HPL.out.mono ?_;rintro e w1 ⟨hB1,a,c,l',rfl,hl',hF1,hg1,hx1⟩;obtain⟨nk,hnk⟩:=jl l'.length;obtain⟨vn,hvn⟩:=jl (S.ver+1);obtain⟨qn,hqn⟩:=jl q.1;rw[<-hnk,<-hvn,<-hqn];obtain⟨W2,hW2⟩:=jl (w1.alloc (.cells #[.int .u64 (vn:Int),.int .u32 (qn:Int),.slice a nk c] 34));obtain⟨mb,hmb⟩:=jl w1.heap.size;have hB12:Below w1.heap.size w1 W2:=by rw[hW2];exact(Below.refl _ w1).alloc jn _
   have hB2:Below w.heap.size w W2:=hB1.trans (hB12.mono hB1.size);have hbm:Blk W2 mb 34 #[.int .u64 (vn:Int),.int .u32 (qn:Int),.slice a nk c]:=by rw[hW2,hmb];exact Blk.new w1 _ _
   have hP2:=HP.out.later hB2;have hcm:=on_commit_fall hP2.on (by omega) HK.out HC.out;rw[hP2.len,<-HPM.out]at hcm;unfold CommitFall at hcm;dsimp only at hcm;have c0:=hP2.cells.1;obtain⟨sd,hsd⟩:=jl S.s;have HP2:=jq hP2;rw[<-hsd]at c0;rw[hW2]at c0;have hcm2:Calls Tryz.prog 13 #[.pointer (some ⟨sd,0,none⟩)] W2 λe w'=>(e=.returned (.int .i64 0)/\(commitD S.m S.C q.2 (S.ver+1) (manL (S.ver+1) q.1 q.2)).2=0/\∃Q',On B S.s S.d S.g S.cm w' Q' (afterD S.m S.C S.ver q) vn q.1 q.2 none' (nowF S.C S.H) 0/\(∀k,Q' k->S.Q k\/W2.heap.size<=k)/\Upon S.Q W2 w')\/(e=.returned (.int .i64 6)/\(commitD S.m S.C q.2 (S.ver+1) (manL (S.ver+1) q.1 q.2)).2≠0/\(afterD S.m S.C S.ver q).off=true/\∃wv',Dk w' S.d S.g wv' (afterD S.m S.C S.ver q)/\(∀k,Has S.d S.g wv' k->S.Q k\/W2.heap.size<=k)/\Upon S.Q W2 w'):=by rw[hsd,hvn];exact hcm
   have HCM:=jq hcm2;have HB2:=jq hB2;have HBM:=jq hbm;have HF:=jq (And.intro hl' (And.intro hF1 (And.intro hg1 hx1)));have HB12:=jq hB12;have HB1:=jq hB1;have HNK:=jq hnk;have HVN:=jq hvn;have HQN:=jq hqn;have HMB:=jq hmb;clear hB12 hB2 hbm hP2 hcm hcm2 hl' hF1 hg1 hx1 hB1 hnk hvn hqn hsd
   go_wp2_with fail
   rw[<-hW2,<-hmb];clear hW2 c0 hmb;refine HCM.out.mono ?_;intro e w3 hcall;rcases hcall with⟨rfl,hz1,Q3,hon3,hq3,hu3⟩|⟨rfl,hbad,hoff,wv3,hdk3,hhas3,hu3⟩
   case inr=>
    have hpb3:=HP2.out.blk.upon hu3 HP.out.pq;have k8:=hpb3.cell 8;unfold PD.cells at k8;rw[HW.out]at k8;simp only[jt,ja,jb]at k8;have hfl:Fallen B p S q w w3:=⟨(Upon.of_below (P:=S.Q) HB2.out).trans hu3 (λk hk=>.inl hk),hpb3,hoff,hbad,wv3,hdk3,λk hk=>(hhas3 k hk).imp id (λh5=>Nat.le_trans HB2.out.size h5)⟩;have HEND:=jq hfl;clear hbad hoff hdk3 hhas3 hu3 hpb3 hfl
    go_wp2_with fail
    go_ret2
    exact .inr ⟨rfl,HW.out,q,HPM.out.symm,HEND.out⟩
   have HZ1:=jq hz1;clear hz1;have hpq3:¬Q3 p:=λhk=>(hq3 p hk).elim HP.out.pq (λh4=>by have:=HB2.out.size;omega)
   have hpb3:=HP2.out.blk.upon hu3 HP.out.pq;have hz12:=HB12.out.size;have hz02:=HB2.out.size;have hbm3:=HBM.out.upon hu3 (λhk=>by have:=HP.out.on.lt mb hk;have:=HMB.out;have:=HB1.out.size;omega);have k8:=hpb3.cell 8;have k7:=hpb3.cell 7;have k6:=hpb3.cell 6;have k5:=hpb3.cell 5;have k4:=hpb3.cell 4;have k3:=hpb3.cell 3;have k2:=hpb3.cell 2;have z2:=hpb3.frozen 2;have z3:=hpb3.frozen 3;have z4:=hpb3.frozen 4;have z5:=hpb3.frozen 5;unfold PD.cells at k8 k7 k6 k5 k4 k3 k2;rw[HW.out]at k8;have m0:=hbm3.cell 0;have m1:=hbm3.cell 1;have m2:=hbm3.cell 2;simp only[jt,ja,jb]at k8 k7 k6 k5 k4 k3 k2 m0 m1 m2;obtain⟨sa,hsa⟩:=jl S.an;obtain⟨sn,hsn⟩:=jl S.L.length;obtain⟨sc,hsc⟩:=jl S.nc;rw[<-hsa,<-hsn,<-hsc]at k6;obtain⟨cs,hcs⟩:=jl S.cells;rw[<-hcs]at hpb3;obtain⟨w4,hw4⟩:=jl ((((w3.setCell ⟨p,2,none⟩ (.int .u64 (vn:Int))).setCell ⟨p,3,none⟩ (.int .u32 (qn:Int))).setCell ⟨p,4,none⟩ (.slice a nk c)).setCell ⟨p,5,none⟩ (.slice sa sn sc));have hb4:Blk w4 p 38 ((((cs.setIfInBounds 2 (.int .u64 (vn:Int))).setIfInBounds 3 (.int .u32 (qn:Int))).setIfInBounds 4 (.slice a nk c)).setIfInBounds 5 (.slice sa sn sc)):=by rw[hw4];exact(((hpb3.set 2 _).set 3 _).set 4 _).set 5 _
   have hu4:Upon (λg=>g=p) w3 w4:=by rw[hw4];exact((((Upon.refl (λg=>g=p) w3).set (p:=⟨p,2,none⟩) (.inl rfl) _).set (p:=⟨p,3,none⟩) (.inl rfl) _).set (p:=⟨p,4,none⟩) (.inl rfl) _).set (p:=⟨p,5,none⟩) (.inl rfl) _
   obtain⟨w5,hw5⟩:=jl (w4.alloc (.cells #[] 9));have hB45:Below w4.heap.size w4 w5:=by rw[hw5];exact(Below.refl _ w4).alloc jn _
   have hb5:=hb4.below hB45 hb4.lt;have j7:=hb5.cell 7;have j8:=hb5.cell 8;have y7:=hb5.frozen 7;have y8:=hb5.frozen 8;rw[hcs]at j7 j8;unfold PD.cells at j7 j8
   simp at j7 j8
   have hs43:w4.heap.size=w3.heap.size:=by rw[hw4];simp[World.setCell]
   obtain⟨nb,hnb⟩:=jl w3.heap.size
   have hO5:w5.ownsRow B 9 1 (.slice (some ⟨nb,0,none⟩) 0 0) 0 []:=by
    rw[hw5,hnb,<-hs43];exact World.ownsRow_lit w4 #[] 0 (by rw[hs43];have:=HP.out.on.low;have:=hu3.size;omega) (by decide) rfl
   have hb7:=(hb5.set 7 (.slice (some ⟨nb,0,none⟩) 0 0)).set 8 (.bool false);obtain⟨w7,hw7⟩:=jl ((w5.setCell ⟨p,7,none⟩ (.slice (some ⟨nb,0,none⟩) 0 0)).setCell ⟨p,8,none⟩ (.bool false));rw[<-hw7]at hb7;have hu7:Upon (λg=>g=p) w5 w7:=by rw[hw7];exact((Upon.refl (λg=>g=p) w5).set (p:=⟨p,7,none⟩) (.inl rfl) _).set (p:=⟨p,8,none⟩) (.inl rfl) _
   have hu37:Upon (λg=>g=p) w3 w7:=(hu4.trans (Upon.of_below (P:=λg=>g=p) hB45) (λg hg=>.inl hg)).trans hu7 (λg hg=>.inl hg)
   have hO7:=own_upon hO5 hu7 (λg hg e=>by
    have e1:nb=g:=by simpa[Value.ownBlock]using hg
    have:=hb4.lt;have:=hnb
    omega)
   have hz3:=hu3.size;have hz37:=hu37.size;have hlt3:=hon3.lt
   have hnb7:nb<w7.heap.size:=by
    have:=hu7.size;have h9:w5.heap.size=w4.heap.size+1:=by rw[hw5,World.size_alloc]
    omega
   have hn3:∀{k:Nat},w.heap.size<=k/\k<w1.heap.size->w.heap.size<=k/\k<w7.heap.size/\¬Q3 k/\(Value.slice (some ⟨nb,0,none⟩) 0 0).ownBlock≠some k:=fun{k} hk=>by
    refine⟨hk.1,by omega,λh5=>(hq3 k h5).elim (λh6=>by have:=HP.out.on.lt k h6;omega) (λh6=>by omega),λe=>?_⟩;have e1:nb=k:=by simpa[Value.ownBlock]using e
    omega
   obtain⟨hl',hF1,hg1,hx1⟩:=HF.out
   have hAway:∀y∈S.l,∀k,Mem.blk y.a=some k->¬S.Q k/\k≠p:=λy hy k hk=>by
    have h5:=(HP.out.fb y hy k hk).1;exact⟨λh6=>h5 (.inl h6),λh6=>h5 (.inr (.inl h6))⟩
   have hF7:FilesIn w7 a l':=by
    refine⟨((hF1.row.later HB12.out).upon hu3 (λg hg h6=>by have:=hg1 g hg;have:=HP.out.on.lt g h6;omega)).upon hu37 (λg hg e=>by have:=hg1 g hg;omega),λy hy=>⟨?_,(hF1.blocks y hy).2⟩⟩;have h5:=((hF1.blocks y hy).1.later HB12.out);rcases hx1 y hy with h6|h6
    ·exact(h5.upon hu3 (λg hg=>(hAway y h6 g hg).1)).upon hu37 (λg hg=>(hAway y h6 g hg).2)
    ·exact(h5.upon hu3 (λg hg h8=>by have:=h6 g hg;have:=HP.out.on.lt g h8;omega)).upon hu37 (λg hg e=>by have:=h6 g hg;omega)
   have hon7:=(hon3.keep hu37 (λk hk=>⟨λh5=>hpq3 (by rw[<-hk];exact h5),λh5=>by have:=HP.out.pb;have:=HP.out.on.pos;omega⟩)).mono (Nat.zero_le (i+1))
   have hend:Step Z B p cnt (i+1) S w w7:=by
    have hz1:=HZ1.out;have hlen: (afterD S.m S.C S.ver q).bl.length=cnt:=(commit_len HP.out.on.wt hz1).trans HP.out.len;have hok3:=hon3.ok;rw[hlen,HVN.out]at hok3;have hfree:Slots (afterD S.m S.C S.ver q).bl (S.ver+1) q.1 q.2:=slots_commit HP.out.on.wt (by have:=HP.out.on.big;exact this) hok3 hz1;refine HP.out.committed (c':=c) (vc':=.slice (some ⟨nb,0,none⟩) 0 0) (((Upon.of_below (P:=S.D p) HB2.out).trans (hu3.mono (λk hk=>Or.inl hk)) (λk hk=>.inl hk)).trans (hu37.mono (λk hk=>Or.inr (Or.inl hk))) (λk hk=>.inl hk)) (by rw[<-HVN.out];exact hon7) hfree hlen (λk hk=>(hq3 k hk).imp id (λh5=>by omega)) ?blk (λk hk=>?hv) hO7 hl' hF7 (λk hk=>hn3 (hg1 k hk)) (λy hy=>(hx1 y hy).imp id (λh5 k hk=>hn3 (h5 k hk))) (HP.out.next_le (by omega) HK.out HPM.out.symm) (by omega) (λz=>after_fuse (HP.out.fuse z) _ _ _)
    case hv=>
     have e1:nb=k:=by simpa[Value.ownBlock]using hk
     exact⟨λh5=>by have:=hlt3 k h5;omega,by omega⟩
    case blk=>
     have e: ((((((cs.setIfInBounds 2 (.int .u64 (vn:Int))).setIfInBounds 3 (.int .u32 (qn:Int))).setIfInBounds 4 (.slice a nk c)).setIfInBounds 5 (.slice sa sn sc)).setIfInBounds 7 (.slice (some ⟨nb,0,none⟩) 0 0)).setIfInBounds 8 (.bool false))=#[.pointer (some ⟨S.s,0,none⟩),.pointer (some ⟨S.d,0,none⟩),.int .u64 ((S.ver+1:Nat):Int),.int .u32 (q.1:Int),.slice a l'.length c,.slice S.an S.L.length S.nc,.slice S.an S.L.length S.nc,.slice (some ⟨nb,0,none⟩) 0 0,.bool false]:=by
      rw[hcs,<-HVN.out,<-HQN.out,<-HNK.out,hsa,hsn,hsc]
      rfl
     rw[e]at hb7;exact hb7
   have HEND:=jq hend;rw[hw5,hw4]at j7 j8 y7 y8;rw[hw7,hw5,hw4,hnb]at HEND;clear hend hF7 hAway hl' hF1 hg1 hx1 hn3 hnb7 hlt3 hO7 hu37 hu7 hw7 hb7 hO5 hnb hs43 hb5 hB45 hw5 hu4 hb4 hw4 hpb3 hcs hsa hsn hsc hpq3 hbm3 hon3 hq3 hu3 HCM HF hon7 hz3 hz37
   go_wp2_with fail
   go_ret2
   exact .inl ⟨0,rfl,rfl,HEND.out⟩
end Full
namespace RefD
open Go.RowKit Go.Deep Mem Crc Mani Full Dk
open Store (nv)
abbrev WW:=Nat×List UInt8
def WW.vs (x:WW):List Value:=[.int .i64 (x.1:Int),nv x.2]
def flatW (l:List WW):List Value:=l.flatMap WW.vs
theorem infoW: (Tryz.prog.info? 133).map (λi=>(i.zero,i.size,i.bytes))=some (some (.agg #[.int .i64 0,.string ⟨#[]⟩]),2,24):=by kernel_rfl
theorem append_W {base:Nat} (w:World) (ty:TypeId) (v:Value) (l:List WW) (h:w.ownsRow base 133 2 v l.length (flatW l)) (x:WW) (hm:l.length<=1000000) (hb:base<=w.heap.size):
  ∃v' w',(Builtin.append_ #[72,72] ty #[v,.slice (some ⟨w.heap.size,0,none⟩) 1 1]).run Tryz.prog (w.alloc (.cells #[.int .i64 (x.1:Int),nv x.2] 133))=.ok v' w'/\w'.ownsRow base 133 2 v' (l++ [x]).length (flatW (l++ [x]))/\w.grownBy w' v.ownBlock:=by
 obtain⟨i,hi,hz,h1,h2⟩:=info_parts infoW;have hB:Below w.heap.size w (w.alloc (.cells #[.int .i64 (x.1:Int),nv x.2] 133)):=(Below.refl _ w).alloc jn _
 obtain⟨v',w',hr,ho,hg,_⟩:=run_append_own (P:=Tryz.prog) (w.alloc (.cells #[.int .i64 (x.1:Int),nv x.2] 133)) base 72 ty 133 i (.agg #[.int .i64 0,.string ⟨#[]⟩]) 2 24 Tryz.underlying72 hi hz h1 h2 rfl (by decide) v l.length (flatW l) (own_later h hB) ⟨w.heap.size,0,none⟩ 1 1 (WW.vs x) rfl (λj u hu=>by
  have:=lies_add (new_lies w 133 #[.int .i64 (x.1:Int),nv x.2]) j u (by simpa[WW.vs]using hu);exact this) (λu hu=>by
  unfold WW.vs at hu;simp only[List.mem_cons,List.not_mem_nil,or_false]at hu;rcases hu with rfl|rfl <;> rfl) (by unfold maxLen;omega) (by omega) (Nat.le_trans hb hB.size)
 refine⟨v',w',hr,?_,grown_later hB hg⟩;have e:flatW (l++ [x])=flatW l++WW.vs x:=by unfold flatW;rw[List.flatMap_append];simp
 rw[jL,e];exact ho
def DV (count:Nat) (va:Value):Value:=.agg #[.int .i64 (count:Int),.bool false,.int .i64 (-1),va,.slice none 0 0]
theorem new_any (n:Nat) (w:World):Calls Tryz.prog 65 #[.int .i64 (n:Int)] w λe w'=>e=.returned (DV n (.slice none 0 0))/\Below w.heap.size w w':=by
 unfold DV
 go_enter Tryz.func65,Tryz.ntmps65
 go_wp2_with fail
 refine bodyPost_ret (results_cell_row Tryz.results65 _ _ w.heap.size 74 #[.int .i64 (n:Int),.bool false,.int .i64 (-1),.slice none 0 0,.slice none 0 0] (0,0) _ rfl (Blk.new w _ _) Tryz.underlying74 rfl (by kernel_rfl)) rfl ⟨rfl,(Below.refl _ w).alloc jn _⟩
def madeL (bl:List (List UInt8)):List WW:=(List.range 32).map (λi=>(i,bl.getD i []))
theorem madeL_take {bl:List (List UInt8)} {k:Nat} (hk:k<32): (madeL bl).take (k+1)=(madeL bl).take k++ [(k,bl.getD k [])]:=by
 rw[List.take_add_one]
 congr 1
 unfold madeL;rw[List.getElem?_map,List.getElem?_range hk]
 rfl
theorem madeL_len (bl:List (List UInt8)): (madeL bl).length=32:=by unfold madeL;simp
attribute [local go_sem] Oper.semAt_some
theorem slots_any {d g:Nat} {m:DM} {w:World} (h:Dk w d g (.slice none 0 0) m) (hoff:m.off=false) (h33:33<=m.bl.length):
  Calls Tryz.prog 36 #[.pointer (some ⟨d,0,none⟩)] w λe w'=>∃v,e=.returned (DV m.bl.length v)/\w'.ownsRow w.heap.size 133 2 v 32 (flatW (madeL m.bl))/\Below w.heap.size w w':=by
 obtain⟨bm,hbm⟩:=jl w.heap.size;obtain⟨W1,hW1⟩:=jl (w.alloc (.cells #[.int .i64 0,.bool false,.int .i64 0,.slice none 0 0,.slice none 0 0] 74));have hal:Below w.heap.size w W1:=by rw[hW1];exact(Below.refl _ w).alloc jn _
 have hblk:Blk W1 bm 74 #[.int .i64 0,.bool false,.int .i64 0,.slice none 0 0,.slice none 0 0]:=by rw[hW1,hbm];exact Blk.new w _ _
 obtain⟨n,hn⟩:=jl m.bl.length;have HC:=jq (count_any (h.later hal));rw[<-hn]at HC⊢;have HN:=jq (new_any n W1);unfold DV at HN⊢;have HD:=jq h;have HNN:=jq hn;have HO:=jq hoff;have f0:=hblk.frozen 0;have f1:=hblk.frozen 1;have f2:=hblk.frozen 2;have f3:=hblk.frozen 3;have f4:=hblk.frozen 4;have HBK:=jq hblk;have HAL:=jq hal;have HBW:Hid (w.heap.size<=bm):=jq (by omega);clear h hn hoff hblk hal
 go_enter Tryz.func36,Tryz.ntmps36
 go_wp2_with fail
 rw[<-hW1,<-hbm];clear hW1 hbm;refine HC.out.mono ?_;rintro e w1 ⟨rfl,rfl⟩
 go_wp2_with fail
 refine HN.out.mono ?_;rintro e w2 ⟨rfl,hB2⟩;have HB2:=jq hB2;clear hB2
 go_wp2_with fail
 obtain⟨mb,hmb⟩:=jl w2.heap.size;obtain⟨W3,hW3⟩:=jl (w2.alloc (.cells #[.int .i64 (n:Int),.bool false,.int .i64 (-1),.slice none 0 0,.slice none 0 0] 74));rw[<-hW3,<-hmb];have hal2:Below w2.heap.size w2 W3:=by rw[hW3];exact(Below.refl _ w2).alloc jn _
 have hs02:w.heap.size<=w2.heap.size:=Nat.le_trans HAL.out.size HB2.out.size;have hbm2:=(HBK.out.below HB2.out HBK.out.lt).below hal2 (HBK.out.below HB2.out HBK.out.lt).lt;have hmbk:Blk W3 mb 74 #[.int .i64 (n:Int),.bool false,.int .i64 (-1),.slice none 0 0,.slice none 0 0]:=by rw[hW3,hmb];exact Blk.new w2 _ _
 have hne:bm≠mb:=by have:=(HBK.out.below HB2.out HBK.out.lt).lt;omega
 have HB3:Hid (Below w.heap.size w W3):=jq ((HAL.out.trans (HB2.out.mono HAL.out.size)).trans (hal2.mono hs02));have hmw:w.heap.size<=mb:=by rw[hmb];exact hs02
 have hbw0:w.heap.size<=bm:=HBW.out;have HBM2:=jq hbm2;have HMB:=jq hmbk;clear hW3 hmb hal2 hbm2 hmbk f0 f1 f2 f3 f4 hs02 HC HN
 go_loopw[4] (λi wr=>∃(k:Nat) (va:Value),k<=32/\i=.int .i64 (k:Int)/\Hid (Below w.heap.size w wr)/\Hid (Blk wr bm 74 #[.int .i64 0,.bool false,.int .i64 0,.slice none 0 0,.slice none 0 0])/\Hid (Blk wr mb 74 #[.int .i64 (n:Int),.bool false,.int .i64 (-1),va,.slice none 0 0])/\Hid (wr.ownsRow w.heap.size 133 2 va ((madeL m.bl).take k).length (flatW ((madeL m.bl).take k)))) (λi _=>32-(intOf i).toNat)
 case atStart=>exact⟨0,.slice none 0 0,by omega,rfl,HB3,HBM2,HMB,jq ⟨rfl,.inl ⟨rfl,rfl⟩⟩⟩
 case round=>
  clear HBM2 HMB HB3;obtain⟨k,va,hk,rfl,HB,HBM,HMB,HOW⟩:=hrel;obtain⟨vc1,vc2,rfl,-⟩:=own_shape HOW.out;have hbw:w.heap.size<=bm:=hbw0
  by_cases hk32:k<32
  ·have hkd:decide ((k:Int) <32)=true:=jd (by omega);obtain⟨b,hb⟩:∃b,m.bl[k]? =some b:=⟨m.bl[k]'(by omega),jg _⟩;have HRD:=jq (read_on k (HD.out.later HB.out) HO.out hb);obtain⟨sy,hsy⟩:∃s:ByteArray,nv b=.string s:=⟨_,rfl⟩;have HBI:=jq hb;have HSY:=jq hsy;clear hb hsy
   go_wp2_with fail
   refine HRD.out.mono ?_;rintro e w3 ⟨ra,rfl,hL3,hB3⟩;have hmb3:=HMB.out.below hB3 HMB.out.lt;have c3:=hmb3.cell 3;have f3:=hmb3.frozen 3;have hb128:b.length=128:=HD.out.len b (jM HBI.out);have hcv:=conv_any (vc:=128) hL3;rw[HSY.out,hb128]at hcv;have hsw:=HB.out.size;have hsz3:w.heap.size<=w3.heap.size:=Nat.le_trans hsw hB3.size;have hO3:=own_later HOW.out hB3;obtain⟨v4,w4,hr4,hrow4,hg4⟩:=append_W w3 72 _ ((madeL m.bl).take k) hO3 (k,b) (by rw[jT];omega) hsz3
   have hsuc: (madeL m.bl).take k++ [(k,b)]=(madeL m.bl).take (k+1):=by
    rw[madeL_take hk32,List.getD_eq_getElem?_getD,HBI.out]
    rfl
   rw[hsuc]at hrow4;obtain⟨v4a,v4c,rfl,-⟩:=own_shape hrow4;rw[show nv ((k,b):WW).2=.string sy from HSY.out]at hr4;have hB4:Below w.heap.size w w4:=(HB.out.trans (hB3.mono hsw)).grown hg4 hsz3 (λq hq=>(hO3.lt q hq).1);have hu4:Upon (λq=>(Value.slice vc1 ((madeL m.bl).take k).length vc2).ownBlock=some q) w3 w4:=Upon.of_grown hg4 (λq hq=>.inl hq);have hmb4:Blk w4 mb 74 #[.int .i64 (n:Int),.bool false,.int .i64 (-1),.slice vc1 ((madeL m.bl).take k).length vc2,.slice none 0 0]:=(hu4.block mb hmb3.lt (λe=>own_ne_blk hO3 hmb3 (by decide) e)).trans hmb3;have hbm3:=HBM.out.below hB3 HBM.out.lt;have hbm4:Blk w4 bm 74 #[.int .i64 0,.bool false,.int .i64 0,.slice none 0 0,.slice none 0 0]:=(hu4.block bm hbm3.lt (λe=>own_ne_blk hO3 hbm3 (by decide) e)).trans hbm3;have c4:=hmb4.cell 3;have f4:=hmb4.frozen 3;have HMB4:=jq hmb4;have HBM4:=jq hbm4;have HB4:=jq hB4;have HROW4:=jq hrow4;obtain⟨ln,hln⟩:=jl (((madeL m.bl).take k).length);rw[<-hln]at hr4 c3 c4;obtain⟨ln4,hln4⟩:=jl (((madeL m.bl).take (k+1)).length);rw[<-hln4]at hr4;have HLN4:=jq hln4;clear hln4;clear hL3 hB3 hmb3 hbm3 hmb4 hbm4 hB4 hrow4 hsuc hO3 hg4 hu4 hln hsz3 hsw hb128
   go_wp2_with (first|(at_builtin;refine Lib.wpList_append_run _ rfl _ _ _ _ rfl _ _ rfl rfl _ _ hr4 ?_))
   case roundEnd=>
    have hrow:=HROW4.out;rw[<-HLN4.out]at hrow;have hl4:Hid (Blk (w4.setCell ⟨mb,3,none⟩ (.slice v4a ln4 v4c)) mb 74 #[.int .i64 (n:Int),.bool false,.int .i64 (-1),.slice v4a ln4 v4c,.slice none 0 0]):=jq (HMB4.out.set 3 _);have hr5:=own_far hrow (λe=>own_ne_blk hrow HMB4.out (by decide) e) (p:=⟨mb,3,none⟩) (.slice v4a ln4 v4c);refine⟨⟨k+1,_,by omega,rfl,jq (HB4.out.setCell hmw _),jq (HBM4.out.far hne _),hl4,jq (by rw[<-HLN4.out];exact hr5)⟩,?_⟩
    simp[intOf]
    omega
  ·have hkd:decide ((k:Int) <32)=false:=jf (by omega);obtain rfl:k=32:=by omega
   have g0:=HMB.out.cell 0;have g1:=HMB.out.cell 1;have g2:=HMB.out.cell 2;have g3:=HMB.out.cell 3;have g4:=HMB.out.cell 4;have hlen: ((madeL m.bl).take 32).length=32:=by rw[jT,madeL_len];rfl
   have htk: (madeL m.bl).take 32=madeL m.bl:=jW (by rw[madeL_len];exact Nat.le_refl _);rw[hlen]at g3
   go_wp2_with (first|(refine wpList_store_row rfl 74 _ _ rfl bm #[.int .i64 (n:Int),.bool false,.int .i64 (-1),.slice vc1 32 vc2,.slice none 0 0] rfl rfl 74 _ HBM.out (by kernel_rfl) rfl (by simp[Value.oneCell']) ?_))
   refine bodyPost_ret (results_cell_row Tryz.results36 _ _ bm 74 #[.int .i64 (n:Int),.bool false,.int .i64 (-1),.slice vc1 32 vc2,.slice none 0 0] (0,0) _ rfl (setRow_heap _ _ _ _ _ _ HBM.out) Tryz.underlying74 rfl (by kernel_rfl)) rfl ⟨_,rfl,?_,below_setRow HB.out hbw _⟩;have ho:=HOW.out;rw[hlen,htk]at ho;exact own_keep ho (λq hq=>setRow_other wr bm q _ (λe=>own_ne_blk ho HBM.out (by decide) (by rw[hq,e])))
end RefD
namespace RefD
open Go.RowKit Go.Deep Mem Crc Mani Full Dk
open Store (nv)
def lastP (l:List WW) (i:Nat) (b:List UInt8):List UInt8:=l.foldl (λb x=>if x.1=i then x.2 else b) b
theorem lastP_take {l:List WW} {k:Nat} {x:WW} (h:l[k]? =some x) (i:Nat) (b:List UInt8):lastP (l.take (k+1)) i b=if x.1=i then x.2 else lastP (l.take k) i b:=by
 unfold lastP;rw[List.take_add_one,h,List.foldl_append]
 rfl
theorem cells_W {w:World} {a:Option Addr} {l:List WW} (h:Lies w a (flatW l)) {k:Nat} {x:WW} (hx:l[k]? =some x):∃g o,a=some ⟨g,o,none⟩/\w.cell? ⟨g,o+k*2,none⟩=some (.int .i64 (x.1:Int))/\w.cell? ⟨g,o+k*2+1,none⟩=some (nv x.2):=by
 have hf:∀{j:Nat} {u:Value},(WW.vs x)[j]? =some u->(flatW l)[k*2+j]? =some u:=λhu=>flat_at (f:=WW.vs) (s:=2) (λ_ _=>rfl) hx hu
 obtain⟨g,o,e,c0⟩:=lies_at h (hf (j:=0) rfl);obtain⟨g',o',e',c1⟩:=lies_at h (hf (j:=1) rfl);subst e;cases e';exact⟨g,o,rfl,c0,c1⟩
theorem last_any (a:Option Addr) (cp:Nat) (l:List WW) (i:Nat) (b:List UInt8) (w:World) (h:Lies w a (flatW l)) (hn:l.length<=1000000) (_:i<=1000000) (hx:∀x∈l,x.1<=1000000):
  Calls Tryz.prog 131 #[.slice a l.length cp,.int .i64 (i:Int),nv b] w λe w'=>e=.returned (nv (lastP l i b))/\w'=w:=by
 obtain⟨n,hnn⟩:=jl l.length;rw[<-hnn]at hn⊢;have H:=jq h;have HN:=jq hnn;have HXB:=jq hx;obtain⟨vb,hvb⟩:=jl (nv b);rw[<-hvb];have HVB:=jq hvb;clear h hnn hx hvb
 go_enter Tryz.func131,Tryz.ntmps131
 go_wp2_with fail
 go_loopw[2,10] (λo j wr=>∃k:Nat,k<=n/\j=.int .i64 (k:Int)/\wr=w/\o=nv (lastP (l.take k) i b)) (λ_ j _=>n-(intOf j).toNat)
 case atStart=>exact⟨0,Nat.zero_le _,rfl,rfl,HVB.out⟩
 case round=>
  obtain⟨k,hk,rfl,rfl,ho⟩:=hrel
  by_cases hkn:k<n
  ·have hkd:decide ((k:Int) <(n:Int))=true:=jd (by omega);obtain⟨x,hx⟩:∃x,l[k]? =some x:=⟨l[k]'(by rw[<-HN.out];exact hkn),jg _⟩;obtain⟨g,o,rfl,c0,c1⟩:=cells_W H.out hx;obtain⟨sx,hsx⟩:∃b:ByteArray,nv x.2=.string b:=⟨_,rfl⟩;rw[hsx]at c1;have hx1:=HXB.out x (jM hx);have HTK:=jq (lastP_take hx i b);have HSX:=jq hsx;obtain⟨xi,hxi⟩:=jl x.1;rw[<-hxi]at c0 hx1;have HXI:=jq hxi;have HO:=jq ho;clear hx hsx hxi ho
   by_cases he:xi=i
   ·have hq: (((xi:Nat):Int)==(i:Int))=true:=by rw[he];exact beq_self_eq_true _
    go_wp2_with fail
    refine⟨⟨k+1,hkn,by simp,by first|rfl|trivial,?_⟩,by simp[intOf];omega⟩;rw[HTK.out,if_pos (by rw[<-HXI.out];exact he),HSX.out]
   ·have hq: (((xi:Nat):Int)==(i:Int))=false:=by
     rw[beq_eq_false_iff_ne]
     omega
    go_wp2_with fail
    refine⟨⟨k+1,hkn,by simp,by first|rfl|trivial,?_⟩,by simp[intOf];omega⟩;rw[HTK.out,if_neg (by rw[<-HXI.out];exact he)];exact HO.out
  ·obtain rfl:n=k:=by omega
   have hkd:decide ((n:Int) <(n:Int))=false:=jf (by omega);have HO:=jq ho;clear ho
   go_wp2_with fail
   go_ret
   rw[HO.out,HN.out,List.take_length];exact⟨rfl,rfl⟩
theorem zeroRow:Builtin.zeroCells #[Value.int .u8 0] 128=((List.replicate 128 (0:UInt8)).map bv).toArray:=by
 apply Array.ext'
 rw[zeroC,List.map_replicate]
 rfl
theorem zeros_any (w:World):Calls Tryz.prog 160 #[] w λe w'=>e=.returned (nv (List.replicate 128 0))/\Below w.heap.size w w':=by
 obtain⟨rz,hrz⟩:=jl (((List.replicate 128 (0:UInt8)).map bv).toArray)
 have hmk: (Instr.makeSlice 22 (.int .i64 128) (.int .i64 128)).run Tryz.prog w=.ok (.slice (some ⟨w.heap.size,0,none⟩) 128 128) (w.alloc (.cells rz 5)):=by
  rw[hrz,<-zeroRow];exact run_make_row' 22 5 (.int .u8 0) 1 Tryz.underlying22 infoB8 rfl .i64 .i64 128 (by omega) (by omega) w
 obtain⟨W1,hW1⟩:=jl (w.alloc (.cells rz 5))
 have hL:Lies W1 (some ⟨w.heap.size,0,none⟩) ((List.replicate 128 (0:UInt8)).map bv):=by
  have h:=new_lies w 5 rz;rw[hW1];rw[hrz]at h⊢;exact h
 have hB:Below w.heap.size w W1:=by rw[hW1];exact(Below.refl _ w).alloc jn _
 have hcv:=conv_any (vc:=128) hL;rw[List.length_replicate]at hcv;obtain⟨sz,hsz⟩:∃s:ByteArray,nv (List.replicate 128 0)=.string s:=⟨_,rfl⟩;rw[hsz]at hcv⊢;have HB:=jq hB;rw[<-hW1]at hmk;clear hW1 hL hB hsz hrz
 go_enter Tryz.func160,Tryz.ntmps160
 go_wp2_with fail
 go_ret
 exact⟨rfl,HB.out⟩
theorem good_any (cnt:Nat) (a:Option Addr) (cp:Nat) (l:List WW) (i:Nat) (w:World) (h:Lies w a (flatW l)) (hn:l.length<=1000000) (hi:i<=1000000) (hx:∀x∈l,x.1<=1000000):
  Calls Tryz.prog 132 #[DV cnt (.slice a l.length cp),.int .i64 (i:Int)] w λe w'=>e=.returned (nv (lastP l i (List.replicate 128 0)))/\Below w.heap.size w w':=by
 unfold DV;obtain⟨W1,hW1⟩:=jl (w.alloc (.cells #[.int .i64 (cnt:Int),.bool false,.int .i64 (-1),.slice a l.length cp,.slice none 0 0] 74));obtain⟨bx,hbx⟩:=jl w.heap.size;have hB1:Below w.heap.size w W1:=by rw[hW1];exact(Below.refl _ w).alloc jn _
 have hblk:Blk W1 bx 74 #[.int .i64 (cnt:Int),.bool false,.int .i64 (-1),.slice a l.length cp,.slice none 0 0]:=by rw[hW1,hbx];exact Blk.new w _ _
 have c3:W1.drew.cell? ⟨bx,3,none⟩=some (.slice a l.length cp):=by
  have h:W1.cell? ⟨bx,3,none⟩=some (.slice a l.length cp):=by rw[hblk.cell];rfl
  exact h
 have HLA:Hid (∀V:World,Below W1.heap.size W1 V->V.cell? ⟨bx,3,none⟩=some (.slice a l.length cp)/\Calls Tryz.prog 131 #[.slice a l.length cp,.int .i64 (i:Int),nv (List.replicate 128 0)] V λe w'=>e=.returned (nv (lastP l i (List.replicate 128 0)))/\w'=V):=jq (λV hV=>⟨by rw[(hblk.below hV hblk.lt).cell];rfl,last_any a cp l i _ V (h.later (hB1.trans (hV.mono hB1.size))) hn hi hx⟩);have HB1:=jq hB1;obtain⟨sz,hsz⟩:∃s:ByteArray,nv (List.replicate 128 0)=.string s:=⟨_,rfl⟩;obtain⟨sr,hsr⟩:∃v:Value,v=nv (lastP l i (List.replicate 128 0)):=⟨_,rfl⟩;rw[<-hsr]at HLA⊢;rw[hsz]at HLA;have HZ:Hid (∀V:World,Calls Tryz.prog 160 #[] V λe w'=>e=.returned (.string sz)/\Below V.heap.size V w'):=jq (λV=>by rw[<-hsz];exact zeros_any V);obtain⟨n,hnn⟩:=jl l.length;rw[<-hnn]at c3 HLA hW1⊢;clear h hx hB1 hblk hsz hsr hnn
 go_enter Tryz.func132,Tryz.ntmps132
 go_wp2_with fail
 rw[<-hW1,<-hbx];clear hW1 hbx
 go_region_law ((first|(go_simp;go_at_call 160;refine(HZ.out _).mono ?_;rintro e w4 ⟨rfl,hB4⟩;obtain⟨k3,hla⟩:=HLA.out w4 ((Below.refl W1.heap.size W1).drew.trans hB4);have HL4:=jq hla;have HB4:=jq hB4;clear hla hB4;dsimp only)|(go_simp;go_at_call 131;refine HL4.out.mono ?_;rintro e w5 ⟨rfl,rfl⟩;dsimp only)))
 all_goals go_wp2_with fail
 all_goals go_ret
 all_goals exact⟨rfl,HB1.out.trans (((Below.refl W1.heap.size W1).drew.trans HB4.out).mono HB1.out.size)⟩
theorem dread_any (cnt:Nat) (a:Option Addr) (cp:Nat) (l:List WW) (i:Nat) (w:World) (h:Lies w a (flatW l)) (hn:l.length<=1000000) (hi:i<cnt) (hc:cnt<=65536) (hx:∀x∈l,x.1<=1000000):
  Calls Tryz.prog 96 #[DV cnt (.slice a l.length cp),.int .i64 (i:Int)] w λe w'=>e=.returned (.tuple #[nv (lastP l i (List.replicate 128 0)),.int .i64 0])/\Below w.heap.size w w':=by
 obtain⟨dv,hdv⟩:=jl (DV cnt (.slice a l.length cp));obtain⟨W1,hW1⟩:=jl (w.alloc (.cells #[.int .i64 (cnt:Int),.bool false,.int .i64 (-1),.slice a l.length cp,.slice none 0 0] 74));obtain⟨bx,hbx⟩:=jl w.heap.size;have hB1:Below w.heap.size w W1:=by rw[hW1];exact(Below.refl _ w).alloc jn _
 have hblk:Blk W1 bx 74 #[.int .i64 (cnt:Int),.bool false,.int .i64 (-1),.slice a l.length cp,.slice none 0 0]:=by rw[hW1,hbx];exact Blk.new w _ _
 have hcl:∀V:World,Below W1.heap.size W1 V->V.cell? ⟨bx,0,none⟩=some (.int .i64 (cnt:Int))/\V.cell? ⟨bx,1,none⟩=some (.bool false)/\V.cell? ⟨bx,2,none⟩=some (.int .i64 (-1))/\V.cell? ⟨bx,3,none⟩=some (.slice a l.length cp)/\V.cell? ⟨bx,4,none⟩=some (.slice none 0 0):=λV hV=>by
  have h:=hblk.below hV hblk.lt;refine⟨?_,?_,?_,?_,?_⟩ <;> rw[h.cell] <;> rfl
 obtain⟨k0,k1,k2,k3,k4⟩:=hcl W1.drew (Below.refl _ W1).drew;obtain⟨sr,hsr⟩:∃s:ByteArray,nv (lastP l i (List.replicate 128 0))=.string s:=⟨_,rfl⟩;have HG:Hid (∀V:World,Below W1.heap.size W1 V->Calls Tryz.prog 132 #[DV cnt (.slice a l.length cp),.int .i64 (i:Int)] V λe w'=>e=.returned (.string sr)/\Below V.heap.size V w'):=jq (λV hV=>by rw[<-hsr];exact good_any cnt a cp l i V (h.later (hB1.trans (hV.mono hB1.size))) hn (by omega) hx)
 have HL:Hid (∀V:World,Calls Tryz.prog 131 #[.slice none 0 0,.int .i64 (i:Int),.string sr] V λe w'=>e=.returned (.string sr)/\w'=V):=jq (λV=>by
  have h:=last_any none 0 [] i (lastP l i (List.replicate 128 0)) V (.inl rfl) (by simp) (by omega) (λx hx=>(List.not_mem_nil hx).elim);rw[show lastP [] i (lastP l i (List.replicate 128 0))=lastP l i (List.replicate 128 0)from rfl,hsr]at h;exact h)
 have HCL:=jq hcl;have HB1:=jq hB1;obtain⟨n,hnn⟩:=jl l.length;rw[hsr];unfold DV at HG hdv⊢;rw[<-hnn]at HG HCL hW1 k3⊢;have hc1:decide ((i:Int) <0)=false:=jf (by omega);have hc2:decide ((cnt:Int)<=(i:Int))=false:=jf (by omega);have hc3:¬((cnt:Int)<=(i:Int)):=by omega
 clear h hx hB1 hblk hsr hnn hcl hdv
 go_enter Tryz.func96,Tryz.ntmps96
 go_wp2_with fail
 rw[<-hW1,<-hbx];clear hW1 hbx
 go_region_law ((first|(go_simp;go_at_call 132;refine(HG.out _ (Below.refl _ W1).drew).mono ?_;rintro e w4 ⟨rfl,hB4⟩;obtain⟨q0,q1,q2,q3,q4⟩:=HCL.out w4 ((Below.refl W1.heap.size W1).drew.trans hB4);have HB4:=jq hB4;clear hB4;dsimp only)|(go_simp;go_at_call 131;refine(HL.out _).mono ?_;rintro e w5 ⟨rfl,rfl⟩;dsimp only)))
 all_goals go_wp2_with fail
 all_goals go_ret2
 all_goals exact⟨rfl,HB1.out.trans (((Below.refl W1.heap.size W1).drew.trans HB4.out).mono HB1.out.size)⟩
end RefD
namespace RefD
open Go.RowKit Go.Deep Mem Crc Mani Full Dk
open Store (nv)
theorem lastP_is {i:Nat} {x:List UInt8}:∀(l:List WW) (b:List UInt8),(∀y∈l,y.1=i->y.2=x)->(b=x\/∃y∈l,y.1=i)->lastP l i b=x
 | [],b,_,h=>by
  rcases h with h|⟨y,hy,_⟩
  ·exact h
  ·cases hy
 |y ::r,b,h1,h2=>by
  show lastP r i (if y.1=i then y.2 else b)=x;refine lastP_is r _ (λz hz=>h1 z (by simp[hz])) ?_
  by_cases e:y.1=i
  ·rw[if_pos e];exact .inl (h1 y (by simp) e)
  ·rw[if_neg e];rcases h2 with h2|⟨z,hz,hz2⟩
   ·exact .inl h2
   ·rcases List.mem_cons.1 hz with rfl|hz
    ·exact absurd hz2 e
    ·exact .inr ⟨z,hz,hz2⟩
theorem made_at (bl:List (List UInt8)) {i:Nat} (hi:i<32) (b:List UInt8):lastP (madeL bl) i b=bl.getD i []:=by
 refine lastP_is _ _ (λy hy e=>?_) (.inr ⟨(i,bl.getD i []),List.mem_map.2 ⟨i,List.mem_range.2 hi,rfl⟩,rfl⟩);obtain⟨j,_,rfl⟩:=List.mem_map.1 hy;have e:j=i:=e;subst e
 rfl
theorem made_le (bl:List (List UInt8)):∀x∈madeL bl,x.1<=1000000:=λx hx=>by
 obtain⟨j,hj,rfl⟩:=List.mem_map.1 hx;have:=List.mem_range.1 hj;show j<=1000000
 omega
attribute [local go_sem] Oper.semAt_some
theorem slot9_any (a:Option Addr) (cp:Nat) (bl:List (List UInt8)) (n:Nat) (hn:n<2) (w:World) (h:Lies w a (flatW (madeL bl))) (h33:33<=bl.length) (hb2:bl.length<=65536) (hlen:∀b∈bl,b.length=128):
  Calls Tryz.prog 64 #[DV bl.length (.slice a 32 cp),.int .i64 (n:Int)] w λe w'=>∃v,e=.returned v/\OwnB w' w.heap.size v (Man.slotB bl n)/\Below w.heap.size w w':=by
 have HR:Hid (∀V:World,Below w.heap.size w V->∀i:Nat,i<32->Calls Tryz.prog 96 #[DV bl.length (.slice a 32 cp),.int .i64 (i:Int)] V λe w'=>e=.returned (.tuple #[nv (bl.getD i []),.int .i64 0])/\Below V.heap.size V w'):=jq (λV hV i hi=>by
  have h1:=dread_any bl.length a cp (madeL bl) i V (h.later hV) (by rw[madeL_len];omega) (by omega) hb2 (made_le bl);rw[madeL_len,made_at bl hi]at h1;exact h1)
 unfold DV at HR⊢;obtain⟨bn,hbn⟩:=jl bl.length;rw[<-hbn]at HR h33⊢;have HBN:=jq hbn;have HLEN:=jq hlen;clear hbn hb2 hlen h;obtain⟨W1,hW1⟩:=jl (w.alloc (.cells #[.int .i64 (bn:Int),.bool false,.int .i64 (-1),.slice a 32 cp,.slice none 0 0] 74));obtain⟨bx,hbx⟩:=jl w.heap.size;have hB1:Below w.heap.size w W1:=by rw[hW1];exact(Below.refl _ w).alloc jn _
 have hblk:Blk W1 bx 74 #[.int .i64 (bn:Int),.bool false,.int .i64 (-1),.slice a 32 cp,.slice none 0 0]:=by rw[hW1,hbx];exact Blk.new w _ _
 obtain⟨W2,hW2⟩:=jl (W1.alloc (.cells #[] 5));obtain⟨ob,hob⟩:=jl (w.heap.size+1);have hs1:W1.heap.size=w.heap.size+1:=by rw[hW1];simp
 have hB2:Below w.heap.size w W2:=by rw[hW2];exact hB1.alloc hB1.size _
 have hblk2:Blk W2 bx 74 #[.int .i64 (bn:Int),.bool false,.int .i64 (-1),.slice a 32 cp,.slice none 0 0]:=hblk.below (by rw[hW2];exact(Below.refl W1.heap.size W1).alloc jn _) hblk.lt
 have ho2:OwnB W2 w.heap.size (.slice (some ⟨ob,0,none⟩) 0 0) (Man.slotJ bl n 0):=by
  have h:=own_empty W1 5 1;rw[<-hW2,hs1,<-hob]at h;exact own_mono h (by omega)
 have HB2:=jq hB2;have HBK2:=jq hblk2;have HO2:=jq ho2;rw[hW1]at hW2;clear hW1 hB1 hblk hs1 hB2 hblk2 ho2
 go_enter Tryz.func64,Tryz.ntmps64
 go_wp2_with fail
 rw[<-hW2,<-hob,<-hbx];clear hW2 hob hbx
 go_loopw[5,6] (λo i wr=>∃k:Nat,k<=16/\i=.int .i64 (k:Int)/\Hid (Below w.heap.size w wr)/\Hid (OwnB wr w.heap.size o (Man.slotJ bl n k))/\Hid (Blk wr bx 74 #[.int .i64 (bn:Int),.bool false,.int .i64 (-1),.slice a 32 cp,.slice none 0 0])) (λ_ i _=>16-(intOf i).toNat)
 case atStart=>exact⟨0,Nat.zero_le _,rfl,HB2,HO2,HBK2⟩
 case round=>
  clear HB2 HO2 HBK2;obtain⟨k,hk,rfl,HB,HO,HBK⟩:=hrel;obtain⟨oa,oc,rfl,-⟩:=own_shape HO.out
  by_cases hkn:k<16
  ·have hkd:decide ((k:Int) <16)=true:=jd (by omega);obtain⟨ix,hix⟩:=jl (n*16+k);have hix2:ix<bl.length:=by rw[<-HBN.out];omega
   obtain⟨b,hb⟩:∃b,bl[ix]? =some b:=⟨bl[ix],jg hix2⟩;have hb128:b.length=128:=HLEN.out b (jM hb);have hsucc:Man.slotJ bl n (k+1)=Man.slotJ bl n k++b:=Man.slotJ_succ (by rw[<-hix];exact hb);have hR:=HR.out _ HB.out ix (by omega);rw[List.getD_eq_getElem?_getD,hb]at hR;obtain⟨sb,hsb⟩:∃s:ByteArray,nv b=.string s:=⟨_,rfl⟩;rw[show nv ((some b).getD [])=nv b from rfl,hsb]at hR;have HRD:=jq hR;have HSB:=jq hsb;have HB128:=jq hb128;have HSUC:=jq hsucc;have hw1:RowKit.wrap64 (16*(n:Int))=16*(n:Int):=IntWalk.wrap64_in _ (by omega);have hw2:RowKit.wrap64 (16*(n:Int)+(k:Int))=16*(n:Int)+(k:Int):=IntWalk.wrap64_in _ (by omega);have e16: (16*(n:Int)+(k:Int))=(ix:Int):=by omega
   have E16:=jq e16;have g0:=HBK.out.cell 0;have g1:=HBK.out.cell 1;have g2:=HBK.out.cell 2;have g3:=HBK.out.cell 3;have g4:=HBK.out.cell 4;clear hix hix2 hb hb128 hsucc hR hsb e16
   go_wp2_with fail
   rw[E16.out];refine HRD.out.mono ?_;rintro e w3 ⟨rfl,hB3⟩;obtain⟨V8,cap8,hcv,hL8,hB8⟩:=RefF.conv_name b sb HSB.out w3
   have hssz:sb.size=b.length:=by
    have h:=HSB.out;unfold Store.nv at h;injection h with h;subst h;exact(by simp[ByteArray.size])
   rw[hssz]at hcv;have hw8:=(HB.out.trans ((hB3.trans (hB8.mono hB3.size)).mono HB.out.size));have hO8:=own_later (own_later HO.out hB3) hB8
   have hlk: (Man.slotJ bl n k).length<=100000:=by
    have:=Man.slotJ_length (n:=n) (j:=k) HLEN.out (by rw[<-HBN.out];omega)
    omega
   obtain⟨v9,w9,hr9,hO9,hg9⟩:=run_append_bytes V8 22 _ _ hO8 (some ⟨w3.heap.size,0,none⟩) cap8 b hL8 (by have:=HB128.out;omega) hw8.size;rw[<-HSUC.out]at hO9;have hB9:=hw8.grown hg9 hw8.size (λq hq=>(hO8.lt q hq).1);have hbk8:=(HBK.out.below hB3 HBK.out.lt).below hB8 (HBK.out.below hB3 HBK.out.lt).lt;have hu9:Upon (λq=>(Value.slice oa (Man.slotJ bl n k).length oc).ownBlock=some q) V8 w9:=Upon.of_grown hg9 (λq hq=>.inl hq);have hbk9:Blk w9 bx 74 #[.int .i64 (bn:Int),.bool false,.int .i64 (-1),.slice a 32 cp,.slice none 0 0]:=(hu9.block bx hbk8.lt (λe=>own_ne_blk hO8 hbk8 (by decide) e)).trans hbk8;have HB9:=jq hB9;have HO9:=jq hO9;have HBK9:=jq hbk9;obtain⟨lb,hlb⟩:=jl b.length;obtain⟨lj,hlj⟩:=jl ((Man.slotJ bl n k).length);rw[<-hlb,<-hlj]at hr9;rw[<-hlb]at hcv;simp only[<-hlj];clear hL8 hB8 hB3 hssz hw8 hO8 hlk hO9 hg9 hB9 hbk8 hu9 hbk9 hlb hlj
   go_wp2_with (first|(at_builtin;refine Lib.wpList_append_run _ rfl _ _ _ _ rfl _ _ rfl rfl _ _ hr9 ?_))
   exact⟨⟨k+1,hkn,by simp,HB9,HO9,HBK9⟩,by simp[intOf];clear E16 HRD HSB HSUC;omega⟩
  ·obtain rfl:k=16:=by omega
   have hkd:decide (((16:Nat):Int) <16)=false:=by decide
   go_wp2_with fail
   go_ret
   exact⟨_,rfl,HO.out,HB.out⟩
end RefD
namespace RefD
open Go.RowKit Go.Deep Mem Crc Full Mani
theorem four02_any (n:Nat) (h:n<2^32) (w:World):Calls Tryz.prog 157 #[.int .u32 (n:Int)] w λe w'=>∃v,e=.returned v/\OwnB w' w.heap.size v (four n)/\Below w.heap.size w w':=by
 go_enter Tryz.func157,Tryz.ntmps157
 go_wp2_with fail
 go_ret
 refine⟨_,rfl,?_,(Below.refl _ w).alloc jn _⟩
 have e:#[Value.int .u8 ((n:Int)%256),Value.int .u8 ((n:Int)/256%256),Value.int .u8 ((n:Int)/65536%256),Value.int .u8 ((n:Int)/16777216)]=((four n).map bv).toArray:=by
  unfold four bv;simp only[List.map_cons,List.map_nil,UInt8.toNat_ofNat'];have e1: ((n%2^8:Nat):Int)=(n:Int)%256:=by omega
  have e2: ((n/256%2^8:Nat):Int)=(n:Int)/256%256:=by omega
  have e3: ((n/65536%2^8:Nat):Int)=(n:Int)/65536%256:=by omega
  have e4: ((n/16777216%2^8:Nat):Int)=(n:Int)/16777216:=by omega
  rw[e1,e2,e3,e4]
 rw[e];have h:=World.ownsRow_lit (e:=5) (size:=1) (base:=w.heap.size) w ((four n).map bv).toArray 4 jn (by decide) (by simp[four]);unfold OwnB;rw[show(four n).length=4 from rfl];exact h
attribute [local go_sem] Oper.semAt_some
theorem mark02_any (a:Option Addr) (cp:Nat) (bs:List UInt8) (w:World) (h:Lies w a (bs.map bv)) (hn:bs.length<=3000000):
  Calls Tryz.prog 158 #[.slice a bs.length cp] w λe w'=>∃v,e=.returned v/\OwnB w' w.heap.size v (marked bs)/\Below w.heap.size w w':=by
 obtain⟨W1,hW1⟩:=jl (w.alloc (.cells #[] 5));obtain⟨ob,hob⟩:=jl w.heap.size;have hB1:Below w.heap.size w W1:=by rw[hW1];exact(Below.refl _ w).alloc jn _
 have ho1:OwnB W1 w.heap.size (.slice (some ⟨ob,0,none⟩) 0 0) []:=by rw[hW1,hob];exact own_empty w 5 1
 obtain⟨v2,w2,hr2,hO2,hg2⟩:=run_append_bytes W1 22 _ _ ho1 a cp bs (h.later hB1) (by simp;omega) hB1.size;rw[List.nil_append]at hO2;have hB2:Below w.heap.size w w2:=hB1.grown hg2 hB1.size (λq hq=>(ho1.lt q hq).1);obtain⟨v2a,v2c,rfl,-⟩:=own_shape hO2;have hS:=sum02_any a cp bs w2 (h.later hB2) (by omega);have hsl:sumF bs<2^32:=by unfold sumF;omega
 have hF:=four02_any (sumF bs) hsl w2;obtain⟨n,hnn⟩:=jl bs.length;obtain⟨sm,hsm⟩:=jl (sumF bs);rw[<-hnn]at hr2 hS hn⊢;rw[<-hsm]at hS hF;have HN:=jq hnn;have HSM:=jq hsm;have HS:=jq hS;have HF:=jq hF;have HO2:=jq hO2;have HB2:=jq hB2;rw[hW1]at hr2;clear h hnn hsm hS hF hO2 hB2 ho1 hB1 hg2 hW1 hsl;rw[hob]at hr2
 go_enter Tryz.func158,Tryz.ntmps158
 go_wp2_with (first|(at_builtin;refine Lib.wpList_append_run _ rfl _ _ _ _ rfl _ _ rfl rfl _ _ hr2 ?_))
 refine HS.out.mono ?_;rintro e w3 ⟨rfl,rfl⟩
 go_wp2_with fail
 refine HF.out.mono ?_;rintro e w4 ⟨v4,rfl,hO4,hB4⟩;obtain⟨v4a,v4c,rfl,_,hL4,-⟩:=own_shape hO4;have hO3:=own_later HO2.out hB4;have hB04:Below w.heap.size w w4:=HB2.out.trans (hB4.mono HB2.out.size);obtain⟨v5,w5,hr5,hO5,hg5⟩:=run_append_bytes w4 22 _ _ hO3 v4a v4c (four sm) hL4 (by rw[<-HN.out];simp[four];omega) hB04.size;have hB5:Below w.heap.size w w5:=hB04.grown hg5 hB04.size (λq hq=>(hO3.lt q hq).1);rw[HSM.out]at hO5;rw[<-HN.out]at hr5;have HO5:=jq hO5;have HB5:=jq hB5;obtain⟨l4,hl4⟩:=jl ((four sm).length);rw[<-hl4]at hr5⊢;clear hO4 hB4 hL4 hO3 hB04 hg5 hO5 hB5 hl4
 go_wp2_with (first|(at_builtin;refine Lib.wpList_append_run _ rfl _ _ _ _ rfl _ _ rfl rfl _ _ hr5 ?_))
 go_ret
 exact⟨_,rfl,HO5.out,HB5.out⟩
end RefD
namespace RefD
open Go.RowKit Go.Deep Mem Crc Full Mani
open Store (nv)
attribute [local go_sem] Oper.semAt_some RefF.neq_str
theorem fits02_any (a:Option Addr) (cp:Nat) (bs:List UInt8) (w:World) (h:Lies w a (bs.map bv)) (hcp:bs.length<=cp) (hm:bs.length<=3000000):
  Calls Tryz.prog 134 #[.slice a bs.length cp] w λe w'=>∃v,e=.returned (.tuple #[v,.int .i64 (fitsE bs)])/\OwnB w' w.heap.size v (fitsL bs)/\Below w.heap.size w w':=by
 by_cases h4:bs.length<4
 ·have e1:fitsE bs=2:=if_pos h4;have e2:fitsL bs= []:=if_neg (by omega);rw[e1,e2];clear h e1 e2
  go_enter Tryz.func134,Tryz.ntmps134
  go_wp2_with fail
  go_ret2
  exact⟨_,rfl,own_empty w 5 1,(Below.refl _ w).alloc jn _⟩
 ·obtain⟨g,off,rfl,hg,hc⟩:=h.resolve_left (λe=>by
   rw[List.map_eq_nil_iff]at e;subst e;exact h4 (by decide))
  have hL:Lies w (some ⟨g,off,none⟩) (bs.map bv):=.inr ⟨g,off,rfl,hg,hc⟩;have hL2:Lies w (some ⟨g,off,none⟩) ((bodyOf bs).map bv):=by unfold bodyOf;rw[List.map_take];exact hL.take _
  obtain⟨m,hm4⟩:∃m,bs.length=m+4:=⟨bs.length-4,by omega⟩;have hol: (bodyOf bs).length=m:=by rw[bodyOf_length];omega
  obtain⟨W1,hW1⟩:=jl (w.alloc (.cells #[] 5));have hB1:Below w.heap.size w W1:=by rw[hW1];exact(Below.refl _ w).alloc jn _
  have ho1:OwnB W1 w.heap.size (.slice (some ⟨w.heap.size,0,none⟩) 0 0) []:=by rw[hW1];exact own_empty w 5 1
  obtain⟨v2,w2,hr2,hO2,hg2⟩:=run_append_bytes W1 22 _ _ ho1 (some ⟨g,off,none⟩) cp (bodyOf bs) (hL2.later hB1) (by rw[hol];simp;omega) hB1.size;rw[List.nil_append]at hO2;have hB2:Below w.heap.size w w2:=hB1.grown hg2 hB1.size (λq hq=>(ho1.lt q hq).1);obtain⟨v2a,v2c,rfl,_,hl2,-⟩:=own_shape hO2;have hmk:=mark02_any v2a v2c (bodyOf bs) w2 hl2 (by rw[hol];omega);rw[hol,hW1]at hr2;rw[hol]at hmk;have HMK:=jq hmk;have HOW:=jq hO2;have HB2:=jq hB2;have HL:=jq (hL.later hB2);have HO:=jq hol;have HM4:=jq hm4;have hw:IntKind.i64.wrap ((m:Int)+4-4)=m:=by rw[show(m:Int)+4-4=m by omega];exact IntWalk.i64_in _ (by omega)
  have hmc:m<=cp:=by omega
  have e1:fitsE bs=if marked (bodyOf bs)=bs then 0 else 5:=if_neg h4
  have E1:=jq e1;rw[hm4];have hm5:m+4<=3000000:=by omega
  clear hc hg hL hL2 hol hO2 hB2 hg2 ho1 hB1 hl2 hmk e1 h4 hW1 h hcp hm
  go_enter Tryz.func134,Tryz.ntmps134
  go_wp2_with (first|(at_builtin;refine Lib.wpList_append_run _ rfl _ _ _ _ rfl _ _ rfl rfl _ _ hr2 ?_))
  obtain⟨sm,hsm⟩:∃s:ByteArray,nv (marked (bodyOf bs))=.string s:=⟨_,rfl⟩;obtain⟨sb,hsb⟩:∃s:ByteArray,nv bs=.string s:=⟨_,rfl⟩
  have hcb:∀V:World,Below w2.heap.size w2 V->(convert 22 9 (.slice (some ⟨g,off,none⟩) (m+4) cp)).run Tryz.prog V=.ok (.string sb) V:=λV hV=>by
   have h:=conv_any (vc:=cp) (HL.out.later hV);rw[hsb,HM4.out]at h;exact h
  have hbq: (sm.toList==sb.toList)=(marked (bodyOf bs)==bs):=RefF.str_beq hsm hsb;obtain⟨q,hq⟩:∃q:Bool,(sm.toList==sb.toList)=q:=⟨_,rfl⟩;have k0:=hcb w2.drew (Below.refl _ w2).drew;have HCB:=jq hcb;have HSM:=jq hsm;have HBQ:=jq hbq;have HQ:=jq hq;have hml: (marked (bodyOf bs)).length=m+4:=by rw[mark_length,HO.out]
  have HML:=jq hml
  have HMK2:Hid (∀V:World,V=w2.drew->Calls Tryz.prog 158 #[.slice v2a m v2c] V λe w'=>∃v,e=.returned v/\OwnB w' w2.heap.size v (marked (bodyOf bs))/\Below w2.heap.size w2 w'):=jq (λV hV=>by
   subst hV
   have h:=mark02_any v2a v2c (bodyOf bs) w2.drew (by
    obtain⟨_,_,e,_,hl,-⟩:=own_shape HOW.out;injection e with e1 _ _;subst e1;exact hl.later (Below.refl _ w2).drew) (by rw[HO.out];omega)
   rw[HO.out]at h
   exact h.mono (λe w' hh=>by
    obtain⟨v,h1,h2,h3⟩:=hh;exact⟨v,h1,h2,(Below.refl _ w2).drew.trans h3⟩))
  clear hcb hsm hsb hbq hml HMK hr2
  go_region_law ((first|(go_simp;go_at_call 158;refine(HMK2.out _ rfl).mono ?_;rintro e w4 ⟨v4,rfl,hO4,hB4⟩;obtain⟨v4a,v4c,rfl,_,hL4,-⟩:=own_shape hO4;have k1:=HCB.out w4 hB4;have k2:=conv_any (vc:=v4c) hL4;rw[HSM.out,HML.out]at k2;rw[HML.out];have HB4:=jq hB4;clear hO4 hB4 hL4;dsimp only)))
  all_goals cases q
  all_goals have HE:Hid (fitsE bs=if(marked (bodyOf bs)==bs)=true then 0 else 5):=jq (by rw[E1.out];simp)
  all_goals have HLL:Hid (fitsL bs=if(marked (bodyOf bs)==bs)=true then bodyOf bs else []):=jq (by unfold fitsL;simp[show 4<=bs.length by omega])
  all_goals rw[<-HBQ.out,HQ.out]at HE HLL
  all_goals have HS:=jq (Nat.le_trans HB2.out.size HB4.out.size)
  all_goals go_wp2_with fail
  all_goals go_ret2
  all_goals first
   |exact⟨_,by rw[HE.out];rfl,by rw[HLL.out];exact own_mono (own_empty w4 5 1) HS.out,(HB2.out.trans (HB4.out.mono HB2.out.size)).alloc HS.out _⟩
   |exact⟨_,by rw[HE.out];rfl,by rw[show fitsL bs=bodyOf bs from HLL.out.trans (by simp)];have hO:=own_later HOW.out HB4.out;rw[HO.out]at hO;unfold OwnB;rw[HO.out];exact hO,HB2.out.trans (HB4.out.mono HB2.out.size)⟩
end RefD
namespace RefD
open Go.RowKit Go.Deep Mem Crc Full Mani Go.Proofs.YtbfochdoeibofaaGreatDoor.Frame
attribute [local go_sem] Oper.semAt_some
theorem get5_any (a:Option Addr) (cp:Nat) (bs:List UInt8) (w:World) (h:Lies w a (bs.map bv)) (hcp:bs.length<=cp) (hm:bs.length<=3000000):
  Calls Tryz.prog 99 #[.slice a bs.length cp] w λe w'=>Got bs w e w':=by
 by_cases h9:bs.length<9
 ·have e0:got bs=(0,[],0,2):=if_pos h9;have E0:=jq e0;clear h hcp e0
  go_enter Tryz.func99,Tryz.ntmps99
  go_wp2_with fail
  refine bodyPost_ret (v:=.tuple #[.agg #[.int .u8 0,.slice none 0 0],.int .i64 0,.int .i64 2]) (by simp[results,Tryz.results99,go_sem]) rfl ⟨⟨.slice none 0 0,by rw[E0.out];rfl,by rw[E0.out];exact World.ownsRow_nil _ _ _ _⟩,((Below.refl _ w).alloc jn _).alloc (by simp) _⟩
 ·obtain⟨g,off,rfl,hg,hc⟩:=h.resolve_left (λe=>by
   rw[List.map_eq_nil_iff]at e;subst e;exact h9 (by decide))
  have hL:Lies w (some ⟨g,off,none⟩) (bs.map bv):=.inr ⟨g,off,rfl,hg,hc⟩;obtain⟨h,hh⟩:=jl (bs.take 9);have hhl:h.length=9:=by rw[hh,jT];omega
  obtain⟨W1,hW1⟩:=jl ((w.alloc (.cells #[.int .u8 0,.slice none 0 0] 155)).alloc (.cells #[.int .u8 0,.slice none 0 0] 155));obtain⟨rb,hrb⟩:=jl w.heap.size;obtain⟨nb,hnb⟩:=jl (w.heap.size+1);have hal:Below w.heap.size w W1:=by rw[hW1];exact((Below.refl _ w).alloc jn _).alloc (by simp) _
  have hrk:Blk W1 rb 155 #[.int .u8 0,.slice none 0 0]:=by
   rw[hW1,hrb];exact(Blk.new w _ _).below ((Below.refl _ _).alloc jn _) (by simp)
  have hnk:Blk W1 nb 155 #[.int .u8 0,.slice none 0 0]:=by
   rw[hW1,hnb];have h:=Blk.new (w.alloc (.cells #[.int .u8 0,.slice none 0 0] 155)) 155 #[.int .u8 0,.slice none 0 0]
   simpa using h
  have hL9:Lies W1 (some ⟨g,off,none⟩) (h.map bv):=by
   rw[hh,List.map_take];exact(hL.later hal).take _
  have hfit:=fits02_any (some ⟨g,off,none⟩) cp h _ hL9 (by omega) (by omega);rw[hhl]at hfit;have HF:=jq hfit;have h9c: (9:Nat)<=cp:=by omega
  have hb9:decide ((bs.length:Int) <9)=false:=by simp;omega
  have HL:=jq hL;have HAL:=jq hal;have HRK:=jq hrk;have HNK:=jq hnk;have HH:=jq hh;have HRW:Hid (w.heap.size<=rb):=jq (by omega);have HNE:Hid (nb≠rb):=jq (by omega);clear hc hg hL hL9 hfit hal hrk hnk hh
  go_enter Tryz.func99,Tryz.ntmps99
  go_wp2_with fail
  rw[<-hW1,<-hnb,<-hrb];clear hW1 hrb hnb;refine HF.out.mono ?_;rintro e w1 ⟨v1,rfl,hown1,hB1⟩;have hrk1:=HRK.out.below hB1 HRK.out.lt;have hnk1:=HNK.out.below hB1 HNK.out.lt;have x0:=hnk1.cell 0;have x1:=hnk1.cell 1
  simp at x0 x1
  have r0:=hrk1.cell 0;have r1:=hrk1.cell 1
  simp at r0 r1
  have z0:=hrk1.frozen 0;have z1:=hrk1.frozen 1;have hrw:w.heap.size<=rb:=HRW.out;have HRK1:=jq hrk1;have HNK1:=jq hnk1;have HB1:=jq (HAL.out.trans (hB1.mono HAL.out.size));have HOW1:=jq hown1;have hne:nb≠rb:=HNE.out;have HEND:Hid (∀(w2:World) (x y:Value),Below w.heap.size w w2->Below w.heap.size w ((w2.setCell ⟨rb,0,none⟩ x).setCell ⟨rb,1,none⟩ y)):=jq (λw2 x y hb=>(hb.setCell hrw _).setCell hrw _);clear hrk1 hnk1 hB1 hown1 HF;rcases fitsE_cases (bs:=h) (by omega)with hf|hf
  ·have hlb:fitsL h=bodyOf h:=fitsL_ok (by omega) hf;have hbl: (bodyOf h).length=5:=by rw[bodyOf_length];omega
   have hown:=HOW1.out;rw[hlb]at hown;obtain⟨g1,c1,e1,hc1,hg1,hg1'⟩:=own_some hown (by omega);obtain⟨a1,c1',e1',_,hl1,_,_⟩:=own_shape hown;rw[e1]at e1';cases e1';rw[hbl]at e1
   have hcell:∀j,j<5->w1.cell? ⟨g1,j,none⟩=some (.int .u8 (((bodyOf h).getD j 0).toNat:Int)):=λj hj=>by
    obtain⟨q,o,e,_,hq⟩:=hl1.resolve_left (by intro e;rw[List.map_eq_nil_iff]at e;rw[e]at hbl;cases hbl);cases e;have:=hq j _ (bv_at (jg (by omega)));rw[Nat.zero_add]at this;rw[this,List.getD_eq_getElem?_getD,jg (by omega)]
    rfl
   have b1:=hcell 1 (by omega);have b2:=hcell 2 (by omega);have b3:=hcell 3 (by omega);have b4:=hcell 4 (by omega);obtain⟨n1,m1⟩:=jl (((bodyOf h).getD 1 0).toNat);obtain⟨n2,m2⟩:=jl (((bodyOf h).getD 2 0).toNat);obtain⟨n3,m3⟩:=jl (((bodyOf h).getD 3 0).toNat);obtain⟨n4,m4⟩:=jl (((bodyOf h).getD 4 0).toNat);have l1:n1<256:=by rw[m1];exact UInt8.toNat_lt _
   have l2:n2<256:=by rw[m2];exact UInt8.toNat_lt _
   have l3:n3<256:=by rw[m3];exact UInt8.toNat_lt _
   have l4:n4<256:=by rw[m4];exact UInt8.toNat_lt _
   rw[<-m1]at b1;rw[<-m2]at b2;rw[<-m3]at b3;rw[<-m4]at b4;obtain⟨N,hN⟩:=jl (n1+n2*256+n3*65536+n4*16777216);have hnum:num (bodyOf h)=N:=by rw[hN,m1,m2,m3,m4];rfl
   have HNUM:=jq hnum;have hNlt:N<4294967296:=by omega
   have HCELL:=jq hcell;have HF0:=jq hf;have HNN:=jq hN;rw[hf];subst e1;clear hown hl1 hcell m1 m2 m3 m4 hN hnum hf hlb
   go_wp2_with fail
   go_quiet (fail)
   have eN: (n1:Int)+256*(n2:Int)+65536*(n3:Int)+16777216*(n4:Int)=(N:Int):=by have:=HNN.out;omega
   rw[eN];have x0': (w1.drewN nq).cell? ⟨nb,0,none⟩=some (.int .u8 0):=x0;have x1': (w1.drewN nq).cell? ⟨nb,1,none⟩=some (.slice none 0 0):=x1;have r0': (w1.drewN nq).cell? ⟨rb,0,none⟩=some (.int .u8 0):=r0;have r1': (w1.drewN nq).cell? ⟨rb,1,none⟩=some (.slice none 0 0):=r1;have z0': (w1.drewN nq).frozen? ⟨rb,0,none⟩=false:=z0;have z1': (w1.drewN nq).frozen? ⟨rb,1,none⟩=false:=z1;obtain⟨WQ,hWQ⟩:=jl (w1.drewN nq);have HWQ:=jq hWQ;have HBQ:Hid (Below w.heap.size w WQ):=jq (by rw[hWQ];exact below_drewN HB1.out nq);have HRKQ:Hid (Blk WQ rb 155 #[.int .u8 0,.slice none 0 0]):=jq (by rw[hWQ];exact HRK1.out.drewN nq);have HNKQ:Hid (Blk WQ nb 155 #[.int .u8 0,.slice none 0 0]):=jq (by rw[hWQ];exact HNK1.out.drewN nq);rw[<-hWQ]at x0' x1' r0' r1' z0' z1'⊢;clear x0 x1 r0 r1 z0 z1 eN b1 b2 b3 b4 hWQ l1 l2 l3 l4
   by_cases hN1:1048576<N
   ·have e0:got bs=(0,[],0,4):=by
     unfold got;rw[if_neg h9,if_neg (by rw[<-HH.out,HF0.out];decide),if_pos (by rw[<-HH.out,HNUM.out];exact hN1)]
    have E0:=jq e0;have q:=box_set HRKQ.out (.int .u8 0) (.slice none 0 0);have q0:=q.cell 0;have q1:=q.cell 1
    simp at q0 q1
    have hB2:=HEND.out WQ (.int .u8 0) (.slice none 0 0) HBQ.out;clear e0 q;have d0:decide ((1048576:Int) <(N:Int))=true:=by simp;omega
    go_wp2_with fail
    refine bodyPost_ret (v:=.tuple #[.agg #[.int .u8 0,.slice none 0 0],.int .i64 0,.int .i64 4]) (by simp[results,Tryz.results99,go_sem,q0,q1]) rfl ⟨⟨.slice none 0 0,by rw[E0.out];rfl,by rw[E0.out];exact World.ownsRow_nil _ _ _ _⟩,hB2⟩
   ·have d0:decide ((1048576:Int) <(N:Int))=false:=by simp;omega
    by_cases hN2:bs.length<13+N
    ·have e0:got bs=(0,[],0,2):=by
      unfold got;rw[if_neg h9,if_neg (by rw[<-HH.out,HF0.out];decide),if_neg (by rw[<-HH.out,HNUM.out];exact hN1),if_pos (by rw[<-HH.out,HNUM.out];exact hN2)]
     have E0:=jq e0;have q:=box_set HRKQ.out (.int .u8 0) (.slice none 0 0);have q0:=q.cell 0;have q1:=q.cell 1
     simp at q0 q1
     have hB2:=HEND.out WQ (.int .u8 0) (.slice none 0 0) HBQ.out;clear e0 q;have d1:decide ((bs.length:Int) <(N:Int)+13)=true:=by simp;omega
     go_wp2_with fail
     refine bodyPost_ret (v:=.tuple #[.agg #[.int .u8 0,.slice none 0 0],.int .i64 0,.int .i64 2]) (by simp[results,Tryz.results99,go_sem,q0,q1]) rfl ⟨⟨.slice none 0 0,by rw[E0.out];rfl,by rw[E0.out];exact World.ownsRow_nil _ _ _ _⟩,hB2⟩
    ·have d1:decide ((bs.length:Int) <(N:Int)+13)=false:=by simp;omega
     obtain⟨o,ho⟩:=jl ((bs.drop 9).take (N+4));have hol:o.length=N+4:=by rw[ho,jT,List.length_drop];omega
     have hLo:Lies WQ (some ⟨g,off+9,none⟩) (o.map bv):=by
      rw[ho,List.map_take];refine Lies.take ?_ _;rw[List.map_drop,HWQ.out];exact((HL.out.later HB1.out).drop 9).drewN nq
     have hfit2:=fits02_any (some ⟨g,off+9,none⟩) (cp-9) o WQ hLo (by omega) (by omega);rw[hol]at hfit2;have HF2:=jq hfit2;have HO:=jq ho;have HOL:=jq hol;have h13:N+13<=cp:=by omega
     clear hfit2 hLo ho hol
     go_wp2_with fail
     refine HF2.out.mono ?_;rintro e w2 ⟨v2,rfl,hown2,hB2⟩;have hrk2:=HRKQ.out.below hB2 HRKQ.out.lt;have hnk2:=HNKQ.out.below hB2 HNKQ.out.lt;have y0:=hrk2.cell 0;have y1:=hrk2.cell 1
     simp at y0 y1
     have u0:=hrk2.frozen 0;have u1:=hrk2.frozen 1;have n0:=hnk2.cell 0;have n1':=hnk2.cell 1
     simp at n0 n1'
     have c0:w2.cell? ⟨g1,0,none⟩=some (.int .u8 (((bodyOf h).getD 0 0).toNat:Int)):=by
      have hb:Below w1.heap.size w1 w2:=by
       have:=hB2;rw[HWQ.out]at this;exact(below_drewN (Below.refl w1.heap.size w1) nq).trans this
      exact hb.cell (p:=⟨g1,0,none⟩) hg1' |>.trans (HCELL.out 0 (by omega))
     obtain⟨kd,hkd⟩:=jl (((bodyOf h).getD 0 0).toNat);rw[<-hkd]at c0;have HKD:=jq hkd;have HRK2:=jq hrk2;have HB2:Hid (Below w.heap.size w w2):=jq (HBQ.out.trans (hB2.mono HBQ.out.size));have hszQ:WQ.heap.size<=w2.heap.size:=hB2.size;have HSQ:Hid (rb<WQ.heap.size/\w.heap.size<=WQ.heap.size):=jq ⟨HRKQ.out.lt,HBQ.out.size⟩;have HOW2:=jq hown2;clear hrk2 hnk2 hB2 hown2 x0' x1' r0' r1' z0' z1' hkd hszQ HCELL HF2;rcases fitsE_cases (bs:=o) (by rw[HOL.out];omega)with hf2|hf2
     ·have e0:got bs=((bodyOf h).getD 0 0,bodyOf o,13+N,0):=by
       unfold got;rw[if_neg h9,if_neg (by rw[<-HH.out,HF0.out];decide),if_neg (by rw[<-HH.out,HNUM.out];exact hN1),if_neg (by rw[<-HH.out,HNUM.out];exact hN2),<-HH.out,HNUM.out,<-HO.out,if_neg (by rw[hf2];decide)]
       have e9: (bodyOf h).getD 0 0=h.getD 0 0:=by
        unfold bodyOf;rw[List.getD_eq_getElem?_getD,List.getD_eq_getElem?_getD,List.getElem?_take,if_pos (by omega)]
       rw[e9]
      have hlb:fitsL o=bodyOf o:=fitsL_ok (by rw[HOL.out];omega) hf2;have hown3:=HOW2.out;rw[hlb]at hown3;have E0:=jq e0;obtain⟨a2,c2,e2,_,_,hb2,_⟩:=own_shape hown3;subst e2;have q:=box_set HRK2.out (.int .u8 (kd:Int)) (.slice a2 (bodyOf o).length c2);have q0:=q.cell 0;have q1:=q.cell 1
      simp at q0 q1
      have HB3:=jq (HEND.out w2 (.int .u8 (kd:Int)) (.slice a2 (bodyOf o).length c2) HB2.out)
      have hown4:OwnB ((w2.setCell ⟨rb,0,none⟩ (.int .u8 (kd:Int))).setCell ⟨rb,1,none⟩ (.slice a2 (bodyOf o).length c2)) w.heap.size (.slice a2 (bodyOf o).length c2) (bodyOf o):=by
       have hne2: (Value.slice a2 (bodyOf o).length c2).ownBlock≠some rb:=λe=>by
        have:=(hown3.lt _ e).1;have:=HSQ.out.1
        omega
       exact own_mono (own_far (own_far hown3 hne2 _) hne2 _) HSQ.out.2
      have HO4:=jq hown4;rw[hf2];clear e0 hlb hown3 q hf2 hb2 hown4
      go_wp2_with fail
      have e9: ((N:Int)+13)=((13+N:Nat):Int):=by omega
      refine bodyPost_ret (v:=.tuple #[.agg #[.int .u8 (kd:Int),.slice a2 (bodyOf o).length c2],.int .i64 ((N:Int)+13),.int .i64 0]) (by simp[results,Tryz.results99,go_sem,q0,q1]) rfl ⟨⟨.slice a2 (bodyOf o).length c2,?_,by rw[E0.out];exact HO4.out⟩,HB3.out⟩;rw[E0.out,e9,HKD.out]
      rfl
     ·have e0:got bs=(0,[],0,5):=by
       unfold got;rw[if_neg h9,if_neg (by rw[<-HH.out,HF0.out];decide),if_neg (by rw[<-HH.out,HNUM.out];exact hN1),if_neg (by rw[<-HH.out,HNUM.out];exact hN2),<-HH.out,HNUM.out,<-HO.out,if_pos hf2]
      have E0:=jq e0;have q:=box_set HRK2.out (.int .u8 0) (.slice none 0 0);have q0:=q.cell 0;have q1:=q.cell 1
      simp at q0 q1
      have hB3:=HEND.out w2 (.int .u8 0) (.slice none 0 0) HB2.out;rw[hf2];clear e0 q hf2
      go_wp2_with fail
      refine bodyPost_ret (v:=.tuple #[.agg #[.int .u8 0,.slice none 0 0],.int .i64 0,.int .i64 5]) (by simp[results,Tryz.results99,go_sem,q0,q1]) rfl ⟨⟨.slice none 0 0,by rw[E0.out];rfl,by rw[E0.out];exact World.ownsRow_nil _ _ _ _⟩,hB3⟩
  ·have e0:got bs=(0,[],0,5):=by
    unfold got;rw[if_neg h9,if_pos (by rw[<-HH.out];exact hf)]
   have E0:=jq e0;rw[hf];have q:=box_set HRK1.out (.int .u8 0) (.slice none 0 0);have q0:=q.cell 0;have q1:=q.cell 1
   simp at q0 q1
   have hB2:=HEND.out w1 (.int .u8 0) (.slice none 0 0) HB1.out;clear e0 q hf
   go_wp2_with fail
   refine bodyPost_ret (v:=.tuple #[.agg #[.int .u8 0,.slice none 0 0],.int .i64 0,.int .i64 5]) (by simp[results,Tryz.results99,go_sem,q0,q1]) rfl ⟨⟨.slice none 0 0,by rw[E0.out];rfl,by rw[E0.out];exact World.ownsRow_nil _ _ _ _⟩,hB2⟩
end RefD
namespace RefF
open Go.RowKit Go.Deep Mem Crc Mani Full
open Store (nv)
def FileR (l:List FR) (next i:Nat) (f:Fil):Prop:=1<=f.name.length/\f.name.length<=32/\f.id<next/\Mani.many f.size=f.blocks.length/\(∀k z,k<i->l[k]? =some z->z.f.id≠f.id/\z.f.name<f.name)/\∀j q,f.blocks[j]? =some q->32<=q/\q<65536/\q∉f.blocks.take j/\∀k z,k<i->l[k]? =some z->q∉z.f.blocks
def FileAns (l:List FR) (next i:Nat) (w:World) (e:Ending) (w':World):Prop:=∃r:Bool,e=.returned (.bool r)/\Below w.heap.size w w'/\(r=true->∀x,l[i]? =some x->FileR l next i x.f)
theorem FileAns.no {l:List FR} {next i:Nat} {w w':World} (h:Below w.heap.size w w'):FileAns l next i w (.returned (.bool false)) w':=⟨false,rfl,h,λh=>by cases h⟩
attribute [local go_sem] geq_str
attribute [local go_sem] Oper.semAt_some
theorem file09_any (ver next:Nat) (a:Option Addr) (c:Nat) (l:List FR) (i:Nat) (w:World) (h:FilesIn w a l) (hi:i<l.length) (hl:l.length<=1000000) (hb:∀x∈l,x.f.blocks.length<=1000000/\x.f.size<=1000000000) (hlong:∀x∈l,x.f.name.length<=1000000):
  Calls Tryz.prog 135 #[.agg #[.int .u64 (ver:Int),.int .u32 (next:Int),.slice a l.length c],.int .i64 (i:Int)] w (FileAns l next i w):=by
 obtain⟨n,hnl⟩:=jl l.length;obtain⟨x,hx⟩:∃x,l[i]? =some x:=⟨l[i]'hi,jg _⟩;rw[<-hnl]at hl hi⊢;have hxm:=jM hx;obtain⟨hLb,hcb⟩:=h.blocks x hxm;obtain⟨hbl,hsz⟩:=hb x hxm;have hlg:=hlong x hxm;obtain⟨W1,hW1⟩:=jl (w.alloc (.cells #[.int .u64 (ver:Int),.int .u32 (next:Int),.slice a n c] 34));obtain⟨xb,hxb⟩:=jl w.heap.size;have hB1:Below w.heap.size w W1:=by rw[hW1];exact(Below.refl _ w).alloc jn _
 have hbx1:Blk W1 xb 34 #[.int .u64 (ver:Int),.int .u32 (next:Int),.slice a n c]:=by rw[hW1,hxb];exact Blk.new w _ _
 have hLb1:=hLb.later hB1;have hF1:=h.later hB1;obtain⟨g,o,rfl,c0,c1,c2,c3⟩:=hF1.cells hx;obtain⟨⟨nm,id,sz,bl⟩,ba,bc⟩:=x;dsimp only at c0 c1 c2 c3 hLb1 hcb hbl hsz hlg;unfold iv at c2;obtain⟨bn,hbn⟩:=jl bl.length;obtain⟨sb,hsb⟩:∃sb:ByteArray,sv nm=.string sb:=⟨_,rfl⟩;have hss:=size_sv hsb;rw[hsb]at c0;rw[<-hbn]at c3 hcb hbl;rw[<-hss]at hlg;obtain⟨W2,hW2⟩:=jl (W1.alloc (.cells #[.string sb,.int .u32 (id:Int),.int .i64 (sz:Int),.slice ba bn bc] 96));obtain⟨fb,hfb⟩:=jl (w.heap.size+1);have hs1:W1.heap.size=w.heap.size+1:=by rw[hW1,World.size_alloc]
 have hB2:Below W1.heap.size W1 W2:=by rw[hW2];exact(Below.refl _ W1).alloc jn _
 have hbf2:Blk W2 fb 96 #[.string sb,.int .u32 (id:Int),.int .i64 (sz:Int),.slice ba bn bc]:=by rw[hW2,hfb,<-hs1];exact Blk.new W1 _ _
 have hbx2:=hbx1.below hB2 hbx1.lt;have hB02:Below w.heap.size w W2:=hB1.trans (hB2.mono hB1.size);have m2:=hbx1.cell 2;have x1:=hbx2.cell 1;have f0:=hbf2.cell 0;have f1:=hbf2.cell 1;have f2:=hbf2.cell 2;have f3:=hbf2.cell 3
 simp at m2 x1 f0 f1 f2 f3
 have HF1:=jq hF1;have HX:=jq hx;have HNL:=jq hnl;have HLB:=jq hLb1;have HBN:=jq hbn;have HSB:=jq hsb;have HSS:=jq hss;have HB02:=jq hB02;have HB2:=jq hB2;have HBX:=jq hbx2;have HBF:=jq hbf2;have HB:=jq hb;have HLG:=jq hlong;have HMN:=jq (λn'=>many08_any sz (by omega) (W2.drewN n'));clear h hB1 hbx1 hLb hLb1 hF1 hx hxm hnl hbn hsb hss hB02 hB2 hbx2 hbf2 hb hlong;clear hs1 m2;rw[hW1]at c0 c1 c2 c3
 go_enter Tryz.func135,Tryz.ntmps135
 go_wp2_with fail
 rw[<-hW1,<-hW2,<-hfb,<-hxb];clear hW2 hfb hxb;have d3:decide ((sz:Int) <0)=false:=by simp
 by_cases A1:sb.size<1
 ·have d0:decide ((sb.size:Int) <1)=true:=jd (by omega);have d0b:decide (sb.size<1)=true:=jd (by omega);have d0c:decide (sb.size=0)=true:=jd (by omega);have d0d:decide ((sb.size:Int)<=0)=true:=jd (by omega);clear A1
  go_quiet ((go_at_call 102;refine Calls.quiet_of_same (HMN.out _)))
  go_wp2_with fail
  go_ret
  exact FileAns.no (drewN_below HB02.out _)
 ·have d0:decide ((sb.size:Int) <1)=false:=jf (by omega);have d0b:decide (sb.size<1)=false:=jf (by omega);have d0c:decide (sb.size=0)=false:=jf (by omega);have d0d:decide ((sb.size:Int)<=0)=false:=jf (by omega)
  by_cases A2:32<sb.size
  ·have d1:decide ((32:Int) <(sb.size:Int))=true:=jd (by omega);have d1b:decide (32<sb.size)=true:=jd (by omega);clear A1 A2
   go_quiet ((go_at_call 102;refine Calls.quiet_of_same (HMN.out _)))
   go_wp2_with fail
   go_ret
   exact FileAns.no (drewN_below HB02.out _)
  ·have d1:decide ((32:Int) <(sb.size:Int))=false:=jf (by omega);have d1b:decide (32<sb.size)=false:=jf (by omega)
   by_cases A3:next<=id
   ·have d2:decide ((next:Int)<=(id:Int))=true:=jd (by omega);have d2b:decide (next<=id)=true:=jd (by omega);clear A1 A2 A3
    go_quiet ((go_at_call 102;refine Calls.quiet_of_same (HMN.out _)))
    go_wp2_with fail
    go_ret
    exact FileAns.no (drewN_below HB02.out _)
   ·have d2:decide ((next:Int)<=(id:Int))=false:=jf (by omega);have d2b:decide (next<=id)=false:=jf (by omega)
    by_cases A4:many sz=bn
    ·have d4: ((many sz:Int)==(bn:Int))=true:=by simp;omega
     have d4b: (many sz==bn)=true:=by simp;omega
     have d4c: ((many sz:Int) !=(bn:Int))=false:=by simp;omega
     have HG:Hid (1<=nm.length/\nm.length<=32/\id<next/\Mani.many sz=bl.length):=jq (by have:=HSS.out;have:=HBN.out;omega);clear A1 A2 A3 A4
     go_quiet ((go_at_call 102;refine Calls.quiet_of_same (HMN.out _)))
     obtain⟨V,hV⟩:=jl (W2.drewN nq);have hBV:Below W2.heap.size W2 V:=by rw[hV];exact⟨rfl,rfl,rfl,Nat.le_refl _,λ_ _=>rfl⟩
     rw[<-hV];have HBV:=jq hBV;clear hV hBV;clear c0 c1 c2 c3 hW1 x1 f0 f1 f2 f3 d0 d0b d0c d0d d1 d1b d2 d2b d3 d4 d4b HMN
     go_wp2_with fail
     clear d4c
     go_loopw[6] (λy wr=>∃k:Nat,k<=i/\y=.int .i64 (k:Int)/\Hid (Below W2.heap.size W2 wr)/\Hid (∀k' z,k'<k->l[k']? =some z->z.f.id≠id/\z.f.name<nm)) (λy _=>i-(intOf y).toNat)
     case atStart=>exact⟨0,Nat.zero_le _,rfl,HBV,jq (λk' z h _=>absurd h (Nat.not_lt_zero _))⟩
     case round=>
      obtain⟨k,hk,rfl,HK,HPV⟩:=hrel
      by_cases hki:k<i
      ·have hkd:decide ((k:Int) <(i:Int))=true:=jd (by omega);obtain⟨z,hz⟩:∃z,l[k]? =some z:=⟨l[k]'(by rw[<-HNL.out];omega),jg _⟩;obtain⟨g',o',e',z0,z1,z2,z3⟩:=(HF1.out.later (HB2.out.trans (HK.out.mono HB2.out.size))).cells hz;cases e';obtain⟨⟨znm,zid,zsz,zbl⟩,za,zc⟩:=z;dsimp only at z0 z1 z2 z3;obtain⟨zb,hzb⟩:∃sb:ByteArray,sv znm=.string sb:=⟨_,rfl⟩;rw[hzb]at z0;have f0:=(HBF.out.below HK.out HBF.out.lt).cell 0;have f1:=(HBF.out.below HK.out HBF.out.lt).cell 1;have x2:=(HBX.out.below HK.out HBX.out.lt).cell 2
       simp at f0 f1 x2
       by_cases B1:zid=id
       ·have t1: ((zid:Int)==(id:Int))=true:=by rw[beq_iff_eq];omega
        have t1b: (zid==id)=true:=by simpa using B1
        clear z2 z3 hz hzb B1
        go_wp2_with fail
        go_quiet (fail)
        go_wp2_with fail
        go_ret
        exact FileAns.no (drewN_below (HB02.out.trans (HK.out.mono HB02.out.size)) _)
       ·have t1: ((zid:Int)==(id:Int))=false:=by rw[beq_eq_false_iff_ne];omega
        have t1b: (zid==id)=false:=by simpa using B1
        obtain⟨t,ht⟩:∃t,Op.bytesLess zb.toList sb.toList=t:=⟨_,rfl⟩;cases t
        ·clear z2 z3 hz hzb B1
         go_wp2_with fail
         go_quiet (fail)
         go_wp2_with fail
         go_ret
         exact FileAns.no (drewN_below (HB02.out.trans (HK.out.mono HB02.out.size)) _)
        ·have HN6:Hid (∀k' z,k'<k+1->l[k']? =some z->z.f.id≠id/\z.f.name<nm):=jq (λk' z' hk' hz'=>by
          rcases Nat.lt_or_ge k' k with h9|h9
          ·exact HPV.out k' z' h9 hz'
          ·obtain rfl:k'=k:=by omega
           rw[hz]at hz';cases hz';rw[less_lt hzb HSB.out]at ht;exact⟨B1,of_decide_eq_true ht⟩)
         clear z2 z3 hz hzb B1
         go_wp2_with fail
         go_quiet (fail)
         go_wp2_with fail
         go_roundw
         case rel=>exact⟨k+1,hki,by simp,jq (drewN_below HK.out _),HN6⟩
         case measure=>simp[intOf];omega
      ·obtain rfl:i=k:=by omega
       have hkd:decide ((i:Int) <(i:Int))=false:=jf (by omega);have f3:=(HBF.out.below HK.out HBF.out.lt).cell 3
       simp at f3
       go_wp2_with fail
       go_loopw[73] (λy wr=>∃j:Nat,j<=bn/\y=.int .i64 (j:Int)/\Hid (Below W2.heap.size W2 wr)/\Hid (∀j' q,j'<j->bl[j']? =some q->32<=q/\q<65536/\q∉bl.take j'/\∀k z,k<i->l[k]? =some z->q∉z.f.blocks)) (λy _=>bn-(intOf y).toNat)
       case atStart=>exact⟨0,Nat.zero_le _,rfl,HK,jq (λj' q h _=>absurd h (Nat.not_lt_zero _))⟩
       case round=>
        clear f3 HK;obtain⟨j,hj,rfl,HJ,HJP⟩:=hrel
        by_cases hjn:j<bn
        ·have hjd:decide ((j:Int) <(bn:Int))=true:=jd (by omega);obtain⟨q,hq⟩:∃q,bl[j]? =some q:=⟨bl[j]'(by rw[<-HBN.out];exact hjn),jg _⟩;have hLj:=HLB.out.later (HB2.out.trans (HJ.out.mono HB2.out.size));obtain⟨bg,bo,rfl,cq⟩:=lies_at hLj (k:=j) (u:=iv q) (by rw[List.getElem?_map,hq];rfl);unfold iv at cq;have hbf:=HBF.out.below HJ.out HBF.out.lt;have f3:=hbf.cell 3
         simp at f3
         have hsl:=slice_high (some ⟨bg,bo,none⟩) bn bc j (by omega);have hlt: (bl.take j).length=j:=by rw[jT];have:=HBN.out;omega
         obtain⟨am,hame⟩:=jl (decide (q∈bl.take j))
         have ham:∀n',Calls Tryz.prog 161 #[.int .i64 (q:Int),.slice (some ⟨bg,bo,none⟩) j bc] (wr.drewN n') λe w'=>e=.returned (.bool am)/\w'=wr.drewN n':=λn'=>by
          have:=among09_any (some ⟨bg,bo,none⟩) bc (bl.take j) q (wr.drewN n') (by rw[List.map_take];exact(hLj.take j)) (by rw[hlt];omega);rw[hlt,<-hame]at this;exact this
         have HAM:=jq ham;have HQ:=jq hq;have HAE:=jq hame;clear hLj hlt ham hq hbf hame
         by_cases C1:q<32
         ·have s0:decide ((q:Int) <32)=true:=jd (by omega);have s0b:decide (q<32)=true:=jd (by omega);clear C1
          go_wp2_with fail
          go_quiet ((go_at_call 161;refine Calls.quiet_of_same (HAM.out _)))
          go_wp2_with fail
          go_ret
          exact FileAns.no (drewN_below (HB02.out.trans (HJ.out.mono HB02.out.size)) _)
         ·have s0:decide ((q:Int) <32)=false:=jf (by omega);have s0b:decide (q<32)=false:=jf (by omega)
          by_cases C2:65536<=q
          ·have s1:decide ((65536:Int)<=(q:Int))=true:=jd (by omega);have s1b:decide (65536<=q)=true:=jd (by omega);clear C1 C2
           go_wp2_with fail
           go_quiet ((go_at_call 161;refine Calls.quiet_of_same (HAM.out _)))
           go_wp2_with fail
           go_ret
           exact FileAns.no (drewN_below (HB02.out.trans (HJ.out.mono HB02.out.size)) _)
          ·have s1:decide ((65536:Int)<=(q:Int))=false:=jf (by omega);have s1b:decide (65536<=q)=false:=jf (by omega);have HC12:Hid (32<=q/\q<65536):=jq (by omega);clear C1 C2;cases am
           ·go_wp2_with fail
            go_quiet ((go_at_call 161;refine Calls.quiet_of_same (HAM.out _)))
            obtain⟨V3,hV3⟩:=jl (wr.drewN nq);have hBV3:Below W2.heap.size W2 V3:=by rw[hV3];exact drewN_below HJ.out _
            rw[<-hV3];have HBV3:=jq hBV3;clear hV3 hBV3 HJ HAM hsl cq f3
            go_wp2_with fail
            clear s0 s0b s1 s1b
            go_loopw[8] (λy wr=>∃k:Nat,k<=i/\y=.int .i64 (k:Int)/\Hid (Below W2.heap.size W2 wr)/\Hid (∀k' z,k'<k->l[k']? =some z->q∉z.f.blocks)) (λy _=>i-(intOf y).toNat)
            case atStart=>exact⟨0,Nat.zero_le _,rfl,HBV3,jq (λk' z h _=>absurd h (Nat.not_lt_zero _))⟩
            case round=>
             clear HBV3;obtain⟨k,hk,rfl,HK,HQP⟩:=hrel
             by_cases hki:k<i
             ·have hkd:decide ((k:Int) <(i:Int))=true:=jd (by omega);obtain⟨z,hz⟩:∃z,l[k]? =some z:=⟨l[k]'(by rw[<-HNL.out];omega),jg _⟩;have hFr:=HF1.out.later (HB2.out.trans (HK.out.mono HB2.out.size));obtain⟨g',o',e',_,_,_,z3⟩:=hFr.cells hz;cases e';have hzb:=(HB.out z (jM hz)).1;obtain⟨hLz,hcz⟩:=hFr.blocks z (jM hz);have hLj:=HLB.out.later (HB2.out.trans (HK.out.mono HB2.out.size));obtain⟨g2,o2,e2,cq⟩:=lies_at hLj (k:=j) (u:=iv q) (by rw[List.getElem?_map,HQ.out];rfl);cases e2;unfold iv at cq;have f3:=(HBF.out.below HK.out HBF.out.lt).cell 3;have x2:=(HBX.out.below HK.out HBX.out.lt).cell 2
              simp at f3 x2
              obtain⟨am,hame⟩:=jl (decide (q∈z.f.blocks));obtain⟨zn,hzn⟩:=jl z.f.blocks.length
              have ham:∀n',Calls Tryz.prog 161 #[.int .i64 (q:Int),.slice z.a zn z.c] (wr.drewN n') λe w'=>e=.returned (.bool am)/\w'=wr.drewN n':=λn'=>by
               have:=among09_any z.a z.c z.f.blocks q (wr.drewN n') hLz hzb;rw[<-hame,<-hzn]at this;exact this
              rw[<-hzn]at z3 hzb hcz;have HAM:=jq ham
              have HN8:Hid (am=false->∀k' z',k'<k+1->l[k']? =some z'->q∉z'.f.blocks):=jq (λha k' z' hk' hz'=>by
               rcases Nat.lt_or_ge k' k with h9|h9
               ·exact HQP.out k' z' h9 hz'
               ·obtain rfl:k'=k:=by omega
                rw[hz]at hz';cases hz';rw[hame]at ha;exact of_decide_eq_false ha)
              clear hz hFr hLz hLj hzn ham hame;cases am
              ·go_wp2_with fail
               go_quiet ((go_at_call 161;refine Calls.quiet_of_same (HAM.out _)))
               go_wp2_with fail
               go_roundw
               case rel=>exact⟨k+1,hki,by simp,jq (drewN_below HK.out _),jq (HN8.out (by trivial))⟩
               case measure=>simp[intOf];omega
              ·go_wp2_with fail
               go_quiet ((go_at_call 161;refine Calls.quiet_of_same (HAM.out _)))
               go_wp2_with fail
               go_ret
               exact FileAns.no (drewN_below (HB02.out.trans (HK.out.mono HB02.out.size)) _)
             ·obtain rfl:i=k:=by omega
              have hkd:decide ((i:Int) <(i:Int))=false:=jf (by omega)
              go_wp2_with fail
              go_roundw
              case rel=>exact⟨j+1,hjn,by simp,HK,jq (λj' q' hj' hq'=>by
               rcases Nat.lt_or_ge j' j with h9|h9
               ·exact HJP.out j' q' h9 hq'
               ·obtain rfl:j'=j:=by omega
                rw[HQ.out]at hq';cases hq';exact⟨HC12.out.1,HC12.out.2,of_decide_eq_false HAE.out.symm,HQP.out⟩)⟩
              case measure=>simp[intOf];omega
           ·go_wp2_with fail
            go_quiet ((go_at_call 161;refine Calls.quiet_of_same (HAM.out _)))
            go_wp2_with fail
            go_ret
            exact FileAns.no (drewN_below (HB02.out.trans (HJ.out.mono HB02.out.size)) _)
        ·obtain rfl:j=bn:=by omega
         have hjd:decide ((j:Int) <(j:Int))=false:=jf (by omega)
         go_wp2_with fail
         go_ret
         refine⟨true,rfl,HB02.out.trans (HJ.out.mono HB02.out.size),λ_ x hx=>?_⟩;rw[HX.out]at hx;cases hx;exact⟨HG.out.1,HG.out.2.1,HG.out.2.2.1,HG.out.2.2.2,HPV.out,λj' q' hq'=>HJP.out j' q' (by rw[HBN.out];exact(jS.1 hq').1) hq'⟩
    ·have d4: ((many sz:Int)==(bn:Int))=false:=by simp;omega
     have d4b: (many sz==bn)=false:=by simp;omega
     have d4c: ((many sz:Int) !=(bn:Int))=true:=by simp;omega
     clear A1 A2 A3 A4
     go_quiet ((go_at_call 102;refine Calls.quiet_of_same (HMN.out _)))
     go_wp2_with fail
     go_ret
     exact FileAns.no (drewN_below HB02.out _)
end RefF
namespace RefF
open Go.RowKit Go.Deep Mem Crc Mani Full
theorem mok_of {l:List FR} {next:Nat} (h:∀i x,l[i]? =some x->FileR l next i x.f):MOk next none [] [] (l.map FR.f):=by
 have hat:∀(i:Nat) (hi:i<(l.map FR.f).length),∃x,l[i]? =some x/\(l.map FR.f)[i]=x.f:=λi hi=>by
  rw[jP]at hi;exact⟨l[i],jg hi,List.getElem_map _⟩
 have hpw:∀(R:Fil->Fil->Prop),(∀(i j:Nat) (x y:FR),i<j->l[i]? =some x->l[j]? =some y->R x.f y.f)->(l.map FR.f).Pairwise R:=λR hR=>List.pairwise_iff_getElem.2 (λi j hi hj hij=>by
  obtain⟨x,hx,ex⟩:=hat i hi;obtain⟨y,hy,ey⟩:=hat j hj;rw[ex,ey];exact hR i j x y hij hx hy)
 refine⟨hpw _ (λi j x y hij hx hy=>((h j y hy).2.2.2.2.1 i x hij hx).2),(λp hp=>by cases hp),λf hf=>?_,⟨?_,λf hf hm=>(by cases hm)⟩,⟨?_,λi hi hm=>(by cases hm)⟩⟩
 ·obtain⟨x,hx,rfl⟩:=List.mem_map.1 hf;obtain⟨i,hi⟩:=List.mem_iff_getElem?.1 hx;obtain⟨g1,g2,g3,g4,g5,g6⟩:=h i x hi
  exact⟨g1,g2,g3,g4,λq hq=>by
   obtain⟨j,hj⟩:=List.mem_iff_getElem?.1 hq;exact⟨(g6 j q hj).1,(g6 j q hj).2.1⟩⟩
 ·unfold List.Nodup;rw[List.pairwise_map];exact hpw _ (λi j x y hij hx hy=>((h j y hy).2.2.2.2.1 i x hij hx).1)
 ·unfold bksL List.Nodup;rw[List.pairwise_flatMap];refine⟨λf hf=>?_,hpw _ (λi j x y hij hx hy a ha b hb e=>?_)⟩
  ·obtain⟨x,hx,rfl⟩:=List.mem_map.1 hf;obtain⟨i,hi⟩:=List.mem_iff_getElem?.1 hx;have g6:=(h i x hi).2.2.2.2.2;refine List.pairwise_iff_getElem.2 (λj k hj hk hjk e=>?_);refine(g6 k _ (jg hk)).2.2.1 ?_;rw[<-e];exact List.mem_iff_getElem?.2 ⟨j,by rw[List.getElem?_take,if_pos hjk];exact jg hj⟩
  ·obtain⟨k,hk⟩:=List.mem_iff_getElem?.1 hb;refine((h j y hy).2.2.2.2.2 k b hk).2.2.2 i x hij hx ?_;rw[<-e];exact ha
def MayAns (ver next:Nat) (fs:List Fil) (w:World) (e:Ending) (w':World):Prop:=∃r:Bool,e=.returned (.bool r)/\(r=true->mayB ver next fs=true)/\Below w.heap.size w w'
theorem MayAns.no {ver next:Nat} {fs:List Fil} {w w':World} (h:Below w.heap.size w w'):MayAns ver next fs w (.returned (.bool false)) w':=⟨false,rfl,(λh=>by cases h),h⟩
attribute [local go_sem] Oper.semAt_some
theorem may09_some (ver next:Nat) (a:Option Addr) (c:Nat) (l:List FR) (w:World) (h:FilesIn w a l) (hfit:∀x∈l,x.f.fits) (hlong:∀x∈l,x.f.name.length<=1000000) (hl:l.length<=1000000) (hb:∀x∈l,x.f.blocks.length<=1000000/\x.f.size<=1000000000) (hv:ver<18446744073709551616) (hn:next<4294967296) (hm: (bodyL ver next (l.map FR.f)).length<=900000):
  Calls Tryz.prog 104 #[.agg #[.int .u64 (ver:Int),.int .u32 (next:Int),.slice a l.length c]] w (MayAns ver next (l.map FR.f) w):=by
 obtain⟨n,hnl⟩:=jl l.length;rw[<-hnl]at hl⊢;have hfile:∀(i:Nat) (V:World),i<n->FilesIn V a l->_:=λi V hi hV=>file09_any ver next a c l i V hV (by omega) (by omega) hb hlong
 rw[<-hnl]at hfile;have hbody:∀V:World,FilesIn V a l->_:=λV hV=>body09_any ver next a c l V hV hv hn hfit hm (by omega)
 rw[<-hnl]at hbody;obtain⟨rv,hrv⟩:=jl (decide ((bodyL ver next (l.map FR.f)).length<=2035));obtain⟨bn,hbn⟩:=jl ((bodyL ver next (l.map FR.f)).length);rw[<-hbn]at hrv hm;have HBN:=jq hbn;obtain⟨W1,hW1⟩:=jl (w.alloc (.cells #[.int .u64 (ver:Int),.int .u32 (next:Int),.slice a n c] 34));obtain⟨xb,hxb⟩:=jl w.heap.size;have hB1:Below w.heap.size w W1:=by rw[hW1];exact(Below.refl _ w).alloc jn _
 have hbx1:Blk W1 xb 34 #[.int .u64 (ver:Int),.int .u32 (next:Int),.slice a n c]:=by rw[hW1,hxb];exact Blk.new w _ _
 have HF1:=jq (h.later hB1);have HFL:=jq hfile;have HBD:=jq hbody;have HB1:=jq hB1;have HBX:=jq hbx1;have HRV:=jq hrv;have HNL:=jq hnl;clear h hfit hlong hb hfile hbody hB1 hbx1 hnl hbn hrv
 go_enter Tryz.func104,Tryz.ntmps104
 go_wp2_with fail
 rw[<-hW1,<-hxb];clear hW1 hxb
 go_loopw[7] (λy wr=>∃k:Nat,k<=n/\y=.int .i64 (k:Int)/\Hid (Below W1.heap.size W1 wr)/\Hid (∀i x,i<k->l[i]? =some x->FileR l next i x.f)) (λy _=>n-(intOf y).toNat)
 case atStart=>exact⟨0,Nat.zero_le _,rfl,jq (Below.refl _ _),jq (λi x h _=>absurd h (Nat.not_lt_zero _))⟩
 case round=>
  obtain⟨k,hk,rfl,HK,HPV⟩:=hrel;have hbk:=HBX.out.below HK.out HBX.out.lt;have x0:=hbk.cell 0;have x1:=hbk.cell 1;have x2:=hbk.cell 2
  simp at x0 x1 x2
  by_cases hkn:k<n
  ·have hkd:decide ((k:Int) <(n:Int))=true:=jd (by omega);have HC:=jq (HFL.out k wr hkn (HF1.out.later HK.out));clear hbk
   go_wp2_with fail
   refine HC.out.mono ?_;rintro e w1 ⟨r,rfl,hB,hr⟩;have HN:=jq (HK.out.trans (hB.mono HK.out.size));have HR:=jq hr;clear hB hr;cases r
   ·go_wp2_with fail
    go_ret
    exact MayAns.no (HB1.out.trans (HN.out.mono HB1.out.size))
   ·go_wp2_with fail
    go_roundw
    case rel=>exact⟨k+1,hkn,by simp,HN,jq (λi x hi hx=>by
     rcases Nat.lt_or_ge i k with h9|h9
     ·exact HPV.out i x h9 hx
     ·obtain rfl:i=k:=by omega
      exact HR.out (by trivial) x hx)⟩
    case measure=>simp[intOf];omega
  ·obtain rfl:n=k:=by omega
   have hkd:decide ((n:Int) <(n:Int))=false:=jf (by omega);have HC:=jq (HBD.out wr (HF1.out.later HK.out));clear hbk
   go_wp2_with fail
   refine HC.out.mono ?_;rintro e w1 ⟨v,rfl,hO,hB⟩;obtain⟨va,vc,rfl,_,_,_,_⟩:=own_shape hO;rw[<-HBN.out];have HN:=jq (HK.out.trans (hB.mono HK.out.size))
   have hrd:decide ((bn:Int)+13<=2048)=rv:=by
    rw[HRV.out]
    by_cases e:bn<=2035
    ·rw[jd e,jd (by omega)]
    ·rw[jf e,jf (by omega)]
   clear hB hO
   go_wp2_with fail
   go_ret
   refine⟨rv,rfl,λh=>?_,HB1.out.trans (HN.out.mono HB1.out.size)⟩;unfold Mani.mayB;rw[allB_of (mok_of (λi x hx=>HPV.out i x (by rw[HNL.out];exact(jS.1 hx).1) hx)),Bool.true_and,<-HBN.out,<-HRV.out];exact h
theorem may09_all (ver next:Nat) (a:Option Addr) (c:Nat) (l:List FR) (w:World) (h:FilesIn w a l) (hfit:∀x∈l,x.f.fits) (hlong:∀x∈l,x.f.name.length<=1000000) (hl:l.length<=1000000) (hb:∀x∈l,x.f.blocks.length<=1000000/\x.f.size<=1000000000) (hv:ver<18446744073709551616) (hn:next<4294967296) (hm: (bodyL ver next (l.map FR.f)).length<=900000):
  Calls Tryz.prog 104 #[.agg #[.int .u64 (ver:Int),.int .u32 (next:Int),.slice a l.length c]] w λe w'=>∃r:Bool,e=.returned (.bool r)/\(mayB ver next (l.map FR.f)=true↔r=true)/\Below w.heap.size w w':=by
 by_cases hy:mayB ver next (l.map FR.f)=true
 ·refine(may09_yes ver next a c l w h (may_true hy).1 hl hb hv hn hm).mono ?_;rintro e w' ⟨rfl,hB⟩;refine⟨_,rfl,⟨λ_=>?_,λ_=>hy⟩,hB⟩;unfold Mani.mayB at hy;rw[Bool.and_eq_true]at hy;exact hy.2
 ·refine(may09_some ver next a c l w h hfit hlong hl hb hv hn hm).mono ?_;rintro e w' ⟨r,rfl,hr,hB⟩;exact⟨r,rfl,⟨λh=>absurd h hy,hr⟩,hB⟩
end RefF
end Go.Proofs.YtbfochdoeibofaaGreatDoor
