/- Part. -/
import Derived.Test.YtfgjnpbffppocaaGreatDoorF0
import Derived.Test.YtfgjnpbffppocaaGreatDoorF0H
import Derived.Test.YtfgjnpbffppocaaGreatDoorF0Q
import Derived.Test.YtfgjnpbffppocaaGreatDoorF2
import Derived.Test.YtfgjnpbffppocaaGreatDoorF4
import Derived.Test.YtfgjnpbffppocaaGreatDoorF5
import Derived.Test.YtfgjnpbffppocaaGreatDoorF6
import Derived.Test.YtfgjnpbffppocaaGreatDoorF14
import Derived.StillTactics
import Derived.Deep.RegionHeld3
import Derived.Laws.CopyRow
set_option maxHeartbeats 1000000
set_option maxRecDepth 100000
namespace Go.Proofs.YtfgjnpbffppocaaGreatDoor
namespace Pool
open Go.RowKit Go.Deep Mem Crc Walk Go.Maps
open Store (Sto Files setF setF_same setF_other nv)
structure Pa where
 p:Nat
 s:Nat
 T:Sto s
 sm:Nat
 hm:Nat
 n:Nat
 room:Nat
def sK (i:Nat):Lit:=.int .i64 (i:Int)
theorem pname_one {i j:Nat} (hi:i<10^20) (hj:j<10^20) (h:pname i=pname j):i=j:=Runs.dec_inj hi hj (by unfold pname at h;injection h)
def Fls (F:Files) (S:Rows) (n:Nat):Prop:=(∀nm,F nm≠none->∃i,i<n/\nm=pname i)/\∀i,i<n->F (pname i)=if S i= []then none else some (Go.Proofs.YtfgjnpbffppocaaGreatDoor.Frame.frameL 80 (all (S i)))
def own3 (A:Pa) (k:Nat):Prop:=k=A.p\/k=A.sm\/k=A.hm
def Wr (A:Pa) (Qs:Nat->Prop) (k:Nat):Prop:=Qs k\/k=A.sm
structure Pl (A:Pa) (ct:Nat) (w:World) (Qs:Nat->Prop) (hv:Nat->Option Value) (S Hd:Rows):Prop where
 pool:Blk w A.p 65 #[.pointer (some ⟨A.s,0,none⟩),.int .i64 (A.n:Int),.int .i64 (A.room:Int),.map (some A.sm),.map (some A.hm),.int .i64 (many Hd A.n:Int)]
 store:∃F j,A.T.At w Qs false F j/\Fls F S A.n/\j<=ct
 spilled:∃f,MapIs w 3 A.sm f/\(∀x,f x≠none->∃i,i<A.n/\x=sK i)/\∀i,i<A.n->f (sK i)=if S i= []then none else some (.int .i64 ((S i).length:Int))
 held:∃f,MapIs w 3 A.hm f/\(∀x,f x≠none->∃i,i<A.n/\x=sK i)/\∀i,i<A.n->f (sK i)=hv i
 rows:∀i,i<A.n->match hv i with
  |none=>Hd i= []
  |some v=>OwnW w 0 v (Hd i)
 apart:∀i j u v,i<A.n->j<A.n->i≠j->hv i=some u->hv j=some v->u.ownBlock=none\/u.ownBlock≠v.ownBlock
 outside:∀i v k,i<A.n->hv i=some v->v.ownBlock=some k->¬Qs k/\¬own3 A k
 qs:∀k,Qs k->¬own3 A k
 maps:A.sm≠A.hm
 okS:∀i,i<A.n->∀x∈S i,ok x
 okH:∀i,i<A.n->∀x∈Hd i,ok x
 top:A.n<=4096/\A.room<=65536
def allQ (A:Pa) (Qs:Nat->Prop) (hv:Nat->Option Value) (k:Nat):Prop:=Qs k\/own3 A k\/∃i v,i<A.n/\hv i=some v/\v.ownBlock=some k
theorem key_of {i:Nat} (h:i<1000000):keyOf Tryz.prog 3 (.int .i64 (i:Int))=some (sK i):=Maps.keyOf_int_mk Tryz.underlying3 (by simp[Lit.wf,IntKind.min,IntKind.max,IntKind.signed,IntKind.bits];omega)
theorem intKeyed:Go.Maps.Keyed Tryz.prog 3:=Go.Maps.int_keyed Tryz.underlying3
end Pool
namespace Pool
open Go.RowKit Go.Deep Mem Crc Walk
theorem there_in {A:Pa} {ct:Nat} {w:World} {Qs:Nat->Prop} {hv:Nat->Option Value} {S Hd:Rows} (h:Pl A ct w Qs hv S Hd) (i:Nat) (hi:i<A.n):
  Calls Tryz.prog 41 #[.pointer (some ⟨A.p,0,none⟩),.int .i64 (i:Int)] w λe w'=>e=.returned (.bool true)/\w'=w:=by
 have c1:=h.pool.cell 1
 simp at c1
 clear h;have h0:decide ((0:Int)<=(i:Int))=true:=by simp
 have h1:decide ((i:Int) <(A.n:Int))=true:=by simp;omega
 go_enter Tryz.func41,Tryz.ntmps41
 go_wp2_with fail
 go_ret
 exact⟨rfl,rfl⟩
theorem held_any {A:Pa} {ct:Nat} {w:World} {Qs:Nat->Prop} {hv:Nat->Option Value} {S Hd:Rows} (h:Pl A ct w Qs hv S Hd):
  Calls Tryz.prog 9 #[.pointer (some ⟨A.p,0,none⟩)] w λe w'=>e=.returned (.int .i64 (many Hd A.n:Int))/\w'=w:=by
 have c5:=h.pool.cell 5
 simp at c5
 clear h
 go_enter Tryz.func9,Tryz.ntmps9
 go_wp2_with fail
 go_ret
 exact⟨rfl,rfl⟩
end Pool
namespace Pool
open Go.RowKit Go.Deep Mem Crc Walk
open Store (Sto Files setF setF_same setF_other nv)
theorem int_zero (w:World): (zeroValue 3).run Tryz.prog w=.ok (.int .i64 0) w:=by kernel_rfl
theorem row_zero (w:World): (zeroValue 54).run Tryz.prog w=.ok (.slice none 0 0) w:=by kernel_rfl
theorem Pl.drew {A:Pa} {ct:Nat} {w:World} {Qs:Nat->Prop} {hv:Nat->Option Value} {S Hd:Rows} (h:Pl A ct w Qs hv S Hd):Pl A ct w.drew Qs hv S Hd:=by
 obtain⟨h1,⟨F,j,h2,h3,hj⟩,h4,h5,h6,h7,h8,h9,h10,h11,h12,h13⟩:=h;exact⟨h1,⟨F,j,A.T.later h2 ((Below.refl _ w).drew),h3,hj⟩,h4,h5,h6,h7,h8,h9,h10,h11,h12,h13⟩
theorem Pl.spilledAt {A:Pa} {ct:Nat} {w:World} {Qs:Nat->Prop} {hv:Nat->Option Value} {S Hd:Rows} (h:Pl A ct w Qs hv S Hd) (i:Nat) (hi:i<A.n):
  (Instr.lookup 62 (.map (some A.sm)) (.int .i64 (i:Int)) false).run Tryz.prog w=.ok (.int .i64 ((S i).length:Int)) w:=by
 obtain⟨f,hm,_,hf⟩:=h.spilled;have:=hm.look intKeyed Tryz.underlying62 int_zero (key_of (i:=i) (by have:=h.top.1;omega));rw[this,hf i hi]
 by_cases e:S i= []
 ·rw[if_pos e,e];rfl
 ·rw[if_neg e];rfl
theorem Pl.heldAt {A:Pa} {ct:Nat} {w:World} {Qs:Nat->Prop} {hv:Nat->Option Value} {S Hd:Rows} (h:Pl A ct w Qs hv S Hd) (i:Nat) (hi:i<A.n):
  ∃v,(hv i).getD (.slice none 0 0)=v/\OwnW w 0 v (Hd i)/\(Instr.lookup 63 (.map (some A.hm)) (.int .i64 (i:Int)) false).run Tryz.prog w=.ok v w:=by
 obtain⟨f,hm,_,hf⟩:=h.held;have hl:=hm.look intKeyed Tryz.underlying63 row_zero (key_of (i:=i) (by have:=h.top.1;omega));rw[hf i hi]at hl;refine⟨_,rfl,?_,hl⟩;have hr:=h.rows i hi
 cases hc:hv i with
 |none=>
  rw[hc]at hr;rw[show Hd i= []from hr];exact World.ownsRow_nil _ _ _ _
 |some v=>
  rw[hc]at hr;exact hr
theorem waiting_any {A:Pa} {ct:Nat} {w:World} {Qs:Nat->Prop} {hv:Nat->Option Value} {S Hd:Rows} (h:Pl A ct w Qs hv S Hd) (i:Nat) (hi:i<A.n) (h1: (S i).length<=1000000) (h2: (Hd i).length<=1000000):
  Calls Tryz.prog 17 #[.pointer (some ⟨A.p,0,none⟩),.int .i64 (i:Int)] w λe w'=>e=.returned (.int .i64 (((S i).length+(Hd i).length:Nat):Int))/\w'=w.drew:=by
 have HT:=jq (there_in h i hi);have hs:=h.drew.spilledAt i hi;obtain⟨v,_,hO,hl⟩:=h.drew.heldAt i hi;obtain⟨va,vc,rfl,_,_,_,_⟩:=own_shape hO;have c3:=h.pool.cell 3;have c4:=h.pool.cell 4
 simp at c3 c4
 clear h hO;obtain⟨a,ha⟩:=jl ((S i).length);obtain⟨b,hb⟩:=jl ((Hd i).length);rw[<-ha]at hs h1⊢;rw[<-hb]at hl h2⊢;have hw:IntKind.i64.wrap ((a:Int)+(b:Int))=(a:Int)+b:=IntWalk.i64_in _ (by omega);clear ha hb
 go_enter Tryz.func17,Tryz.ntmps17
 go_wp2_with fail
 refine HT.out.mono ?_;rintro e w1 ⟨rfl,rfl⟩
 go_wp2_with fail
 go_still (by kernel_rfl)
 change Exit.then _ _ _ _ w1.drew
 go_wp2_with fail
 go_ret
 exact⟨by push_cast;rfl,rfl⟩
end Pool
namespace Pool
open Go.RowKit Go.Deep Mem Crc Walk
open Store (Sto Files setF setF_same setF_other nv)
theorem read_none {A:Pa} {ct:Nat} {w:World} {Qs:Nat->Prop} {hv:Nat->Option Value} {S Hd:Rows} (h:Pl A ct w Qs hv S Hd) (i:Nat) (hi:i<A.n) (he:S i= []):
  Calls Tryz.prog 23 #[.pointer (some ⟨A.p,0,none⟩),.int .i64 (i:Int)] w λe w'=>e=.returned (.tuple #[.slice none 0 0,.int .i64 0])/\Below w.heap.size w w':=by
 have hs:=h.spilledAt i hi;rw[he]at hs;have c3:=h.pool.cell 3
 simp at c3 hs
 clear h
 go_enter Tryz.func23,Tryz.ntmps23
 go_wp2_with fail
 go_ret2
 exact⟨rfl,Below.refl _ _⟩
theorem one_sec:∀{l:List Go.Proofs.YtfgjnpbffppocaaGreatDoor.Frame.Sec} {k:UInt8} {b:List UInt8},l.map Go.Proofs.YtfgjnpbffppocaaGreatDoor.Frame.Sec.kb= [(k,b)]->∃sec,l= [sec]/\sec.kind=k/\sec.body=b
 | [],_,_,h=>by cases h
 | [sec],_,_,h=>by
  injection h with h;injection h with h1 h2;exact⟨sec,rfl,h1,h2⟩
 |_ ::_ ::_,_,_,h=>by
  injection h with _ h;cases h
theorem read_some {A:Pa} {ct:Nat} {w:World} {Qs:Nat->Prop} {hv:Nat->Option Value} {S Hd:Rows} (h:Pl A ct w Qs hv S Hd) (i:Nat) (hi:i<A.n) (he:S i≠[]) (hm: (S i).length<=30000):
  Calls Tryz.prog 23 #[.pointer (some ⟨A.p,0,none⟩),.int .i64 (i:Int)] w λe w'=>∃v,e=.returned (.tuple #[v,.int .i64 0])/\OwnW w' w.heap.size v (S i)/\Below w.heap.size w w':=by
 have hs:=h.spilledAt i hi;have c3:=h.pool.cell 3;have c0:=h.pool.cell 0
 simp at c3 c0
 obtain⟨F,j,hst,hfl,_⟩:=h.store;have hC:=hfl.2 i hi;rw[if_neg he]at hC;have hok:=h.okS i hi;have hal:=all_length (S i) hok;have hin:=h.top.1;have H:=jq h;have HST:=jq hst;have HC:=jq hC;have HN:=jq (name_any i (by omega) w.drew);obtain⟨a,ha⟩:=jl ((S i).length);have ha0:0<a:=by rw[ha];exact List.length_pos_iff.2 he
 rw[<-ha]at hs
 have hne: ((a:Int)==0)=false:=by
  have:¬(a:Int)=0:=by omega
  simpa using this
 have HA:=jq ha;have HE:=jq he;have HLP:=jq h.pool.lt;have hrd:∀W,Below w.heap.size w W->Calls Tryz.prog 39 #[.pointer (some ⟨A.s,0,none⟩),.string ⟨(pname i).toArray⟩] W λe w'=>∃v,e=.returned (.tuple #[v,.int .i64 0])/\OwnB w' W.heap.size v (Go.Proofs.YtfgjnpbffppocaaGreatDoor.Frame.frameL 80 (all (S i)))/\Below W.heap.size W w':=λW hW=>A.T.read_some (A.T.later hst hW) (pname i) _ hC
 have HRD:=jq hrd;clear hrd;clear h hst hfl hC he ha
 go_enter Tryz.func23,Tryz.ntmps23
 go_wp2_with fail
 go_region_held3 (λw'=>w'.cell? ⟨A.p,0,none⟩=some (.pointer (some ⟨A.s,0,none⟩))) (first|exact c0|exact hk3|exact hk2) ((first|(go_at_call 22;refine HN.out.mono ?_;rintro e w1 ⟨rfl,hB1⟩;have hBd:=((Below.refl w.heap.size w).drew).trans hB1;have hk2:=(hBd.cell (p:=⟨A.p,0,none⟩) HLP.out).trans c0;dsimp only)|(go_at_call 39;refine(HRD.out _ hBd).mono ?_;rintro e w2 ⟨v2,rfl,hO2,hB2⟩;have hBe:=hBd.trans (hB2.mono hBd.size);have hk3:=(hBe.cell (p:=⟨A.p,0,none⟩) HLP.out).trans c0;dsimp only)))
 obtain⟨va,vc,rfl,hvc,hL,_,_⟩:=own_shape hO2;have hbl: (all (S i)).length<=1048576:=by rw[hal];omega
 have hAll:=Go.Proofs.YtfgjnpbffppocaaGreatDoor.Frame.all_any va vc _ w2 hL hvc (by rw[Go.Proofs.YtfgjnpbffppocaaGreatDoor.Frame.frameL_length,hal];omega);have HAL:=jq hAll;have HBE:=jq hBe;have HFR:=jq (Go.Proofs.YtfgjnpbffppocaaGreatDoor.Frame.all_frame 80 (all (S i)) hbl);clear hAll hL hO2 hB2 hBe
 go_wp2_with fail
 refine HAL.out.mono ?_;rintro e w3 ⟨⟨v3,l,rfl,hO3,hkb,hbod⟩,hB3⟩;rw[HFR.out]at hkb⊢;obtain⟨sec,rfl,hsk,hsb⟩:=one_sec hkb;obtain⟨va3,vc3,rfl,hvc3,hL3,_,_⟩:=own_shape hO3;have hbd:=hbod sec (by simp);obtain⟨g3,off3,rfl,hg3,hc3⟩:=hL3.resolve_left (λe=>by simp[Go.Proofs.YtfgjnpbffppocaaGreatDoor.Frame.flatS,Go.Proofs.YtfgjnpbffppocaaGreatDoor.Frame.Sec.vs]at e);have k0:=hc3 0 (.int .u8 80) (by simp[Go.Proofs.YtfgjnpbffppocaaGreatDoor.Frame.flatS,Go.Proofs.YtfgjnpbffppocaaGreatDoor.Frame.Sec.vs,hsk,bv]);have k1:=hc3 1 (.slice sec.a sec.body.length sec.cp) (by simp[Go.Proofs.YtfgjnpbffppocaaGreatDoor.Frame.flatS,Go.Proofs.YtfgjnpbffppocaaGreatDoor.Frame.Sec.vs]);rw[hsb]at k1 hbd;rw[Nat.add_zero]at k0;simp only[List.length_singleton];obtain⟨va4,vc4,ev4,hvc4,hL4,_,_⟩:=own_shape hbd;injection ev4 with ea4 _ ec4;rw[<-ea4]at hL4;rw[<-ec4]at hvc4;have hwa:=all_ok sec.a sec.cp (S i).length (all (S i)) w3 hL4 hvc4 hal (by omega);rw[hal,unall_all (S i) hok]at hwa;have HWA:=jq hwa;have hpos:0<(S i).length:=by rw[<-HA.out];exact ha0
 have z1: (((S i).length:Int)*28==0)=false:=beq_eq_false_iff_ne.2 (by omega);have z2: ((((S i).length*28:Nat):Int)==0)=false:=beq_eq_false_iff_ne.2 (by omega);have HBZ:=jq (HBE.out.trans (hB3.mono HBE.out.size));have HH:=jq hal;clear hkb hbod hO3 hL3 hc3 hwa hL4 hB3 ea4 ec4
 go_wp2_with fail
 refine HWA.out.mono ?_;rintro e w4 ⟨v4,rfl,hO4,hB4⟩;have HO4:=jq (own_mono hO4 HBZ.out.size);have HB4:=jq (HBZ.out.trans (hB4.mono HBZ.out.size));clear hO4 hB4
 go_wp2_with fail
 go_ret2
 exact⟨_,rfl,HO4.out,HB4.out⟩
end Pool
namespace Pool
open Go.RowKit Go.Deep Mem Crc Walk
open Store (Sto Files setF setF_same setF_other nv)
theorem files_upd {F:Files} {S:Rows} {n i:Nat} (h:Fls F S n) (hi:i<n) (hn:n<=4096) (l:List (List Nat)):Fls (setF F (pname i) (if l= []then none else some (Go.Proofs.YtfgjnpbffppocaaGreatDoor.Frame.frameL 80 (all l)))) (upd S i l) n:=by
 refine⟨λnm hnm=>?_,λj hj=>?_⟩
 ·by_cases e:nm=pname i
  ·exact⟨i,hi,e⟩
  ·rw[setF_other _ e]at hnm;exact h.1 nm hnm
 ·by_cases e:j=i
  ·subst e;rw[upd_same,setF_same]
  ·rw[upd_other _ e,setF_other _ (λh=>e (pname_one (by omega) (by omega) h))];exact h.2 j hj
theorem sK_inj {i j:Nat} (h:sK i=sK j):i=j:=by
 unfold sK at h;injection h with _ h
 omega
theorem Pl.lt {A:Pa} {ct:Nat} {w:World} {Qs:Nat->Prop} {hv:Nat->Option Value} {S Hd:Rows} (h:Pl A ct w Qs hv S Hd):∀k,allQ A Qs hv k->k<w.heap.size:=by
 rintro k (hk|hk|⟨i,v,hi,hv',hk⟩)
 ·obtain⟨F,j,hst,_⟩:=h.store;exact A.T.lt hst k hk
 ·obtain⟨f,hm,_⟩:=h.spilled;obtain⟨g,hm2,_⟩:=h.held;rcases hk with rfl|rfl|rfl
  ·exact h.pool.lt
  ·exact hm.lt
  ·exact hm2.lt
 ·have:=h.rows i hi;rw[hv']at this;exact(World.ownsRow.lt this k hk).2
theorem map_ne_blk {w:World} {k:TypeId} {b g:Nat} {f:Lit->Option Value} {t:TypeId} {cs:Array Value} (h:MapIs w k b f) (h2:Blk w g t cs):b≠g:=by
 rintro rfl;obtain⟨D,n,⟨es,cl,hb,_⟩,_⟩:=h;unfold Blk at h2;rw[hb]at h2;cases h2
theorem Pl.wrote {A:Pa} {ct ct':Nat} {w w':World} {Qs Q':Nat->Prop} {hv:Nat->Option Value} {S S' Hd:Rows} (h:Pl A ct w Qs hv S Hd) (hu:Upon (Wr A Qs) w w') {F':Files} {j':Nat} (hs:A.T.At w' Q' false F' j') (hj:j'<=ct') (hC:Fls F' S' A.n)
  (hQ:∀k,Q' k->Qs k\/w.heap.size<=k) {f':Lit->Option Value} (hm:MapIs w' 3 A.sm f') (hsup:∀x,f' x≠none->∃i,i<A.n/\x=sK i) (hf:∀i,i<A.n->f' (sK i)=if S' i= []then none else some (.int .i64 ((S' i).length:Int)))
  (hok:∀i,i<A.n->∀x∈S' i,ok x):Pl A ct' w' Q' hv S' Hd:=by
 obtain⟨f,hmf,hfs,hff⟩:=h.spilled;obtain⟨g,hmg,hgs,hgg⟩:=h.held;have hp:¬Wr A Qs A.p:=λhk=>hk.elim (λhq=>h.qs A.p hq (.inl rfl)) (λe=>map_ne_blk hmf h.pool e.symm)
 have hm1:¬Wr A Qs A.hm:=λhk=>hk.elim (λhq=>h.qs A.hm hq (.inr (.inr rfl))) (λe=>h.maps e.symm)
 have hQ3:∀k,Q' k->¬own3 A k:=λk hk hk3=>by
  rcases hQ k hk with h1|h1
  ·exact h.qs k h1 hk3
  ·have:=h.lt k (.inr (.inl hk3))
   omega
 have hvo:∀i v k,i<A.n->hv i=some v->v.ownBlock=some k->¬Wr A Qs k:=λi v k hi hvi hk hw=>by
  obtain⟨h1,h2⟩:=h.outside i v k hi hvi hk;exact hw.elim h1 (λe=>h2 (.inr (.inl e)))
 refine⟨h.pool.upon hu hp,⟨F',j',hs,hC,hj⟩,⟨f',hm,hsup,hf⟩,⟨g,hmg.keep (hu.block _ hmg.lt hm1),hgs,hgg⟩,λi hi=>?_,h.apart,λi v k hi hvi hk=>⟨λhq=>?_,(h.outside i v k hi hvi hk).2⟩,hQ3,h.maps,hok,h.okH,h.top⟩
 ·have:=h.rows i hi
  cases hc:hv i with
  |none=>rw[hc]at this;exact this
  |some v=>
   rw[hc]at this;exact own_upon this hu (λk hk=>hvo i v k hi hc hk)
 ·rcases hQ k hq with h1|h1
  ·exact(h.outside i v k hi hvi hk).1 h1
  ·have:=h.lt k (.inr (.inr ⟨i,v,hi,hvi,hk⟩))
   omega
theorem Pl.mono {A:Pa} {ct ct':Nat} {w:World} {Qs:Nat->Prop} {hv:Nat->Option Value} {S Hd:Rows} (h:Pl A ct w Qs hv S Hd) (hc:ct<=ct'):Pl A ct' w Qs hv S Hd:=by
 obtain⟨F,j,h1,h2,h3⟩:=h.store;exact⟨h.pool,⟨F,j,h1,h2,Nat.le_trans h3 hc⟩,h.spilled,h.held,h.rows,h.apart,h.outside,h.qs,h.maps,h.okS,h.okH,h.top⟩
theorem Pl.later {A:Pa} {ct:Nat} {w w':World} {Qs:Nat->Prop} {hv:Nat->Option Value} {S Hd:Rows} (h:Pl A ct w Qs hv S Hd) (hB:Below w.heap.size w w'):Pl A ct w' Qs hv S Hd:=by
 obtain⟨F,j,hst,hfl,hj⟩:=h.store;obtain⟨f,hm,hs,hf⟩:=h.spilled;exact h.wrote (Upon.of_below hB) (A.T.later hst hB) hj hfl (λk hk=>.inl hk) (hm.keep (hB.block _ hm.lt)) hs hf h.okS
theorem Pl.count {A:Pa} {ct:Nat} {w w1:World} {Qs:Nat->Prop} {hv:Nat->Option Value} {S Hd:Rows} (h:Pl A ct w Qs hv S Hd) (hk:w1.heap[A.sm]? =w.heap[A.sm]?) (i:Nat) (hi:i<A.n) (v:Value):
  ∃w2 f',(Instr.mapUpdate 62 (.map (some A.sm)) (.int .i64 (i:Int)) v).run Tryz.prog w1=.ok () w2/\MapIs w2 3 A.sm f'/\(∀x,f' x≠none->∃i,i<A.n/\x=sK i)/\f' (sK i)=some v/\(∀j,j<A.n->j≠i->f' (sK j)=if S j= []then none else some (.int .i64 ((S j).length:Int)))/\Only [A.sm] w1 w2/\w2.heap.size=w1.heap.size:=by
 obtain⟨f,hm,hs,hf⟩:=h.spilled;have hn:=h.top.1
 obtain⟨w2,hrun,hm2,hg,hsz⟩:=(hm.keep hk).update intKeyed Tryz.underlying62 ((List.range A.n).map sK) (λx hx=>by
  obtain⟨j,hj,rfl⟩:=hs x hx;exact List.mem_map.2 ⟨j,List.mem_range.2 hj,rfl⟩) (by simp[maxLen];omega) (key_of (i:=i) (by omega)) v
 refine⟨w2,_,hrun,hm2,λx hx=>?_,setK_same _ _ _,λj hj hji=>?_,Only.of_grown hg (λg hg=>by cases hg;exact .inl (by simp)),hsz⟩
 ·by_cases e:x=sK i
  ·exact⟨i,hi,e⟩
  ·rw[setK_other _ e]at hx;exact hs x hx
 ·rw[setK_other _ (λe=>hji (sK_inj e))];exact hf j hj
theorem write_some {A:Pa} {ct:Nat} {w:World} {Qs:Nat->Prop} {hv:Nat->Option Value} {S Hd:Rows} (h:Pl A ct w Qs hv S Hd) (hct:ct<90000) (i:Nat) (hi:i<A.n) (a:Option Addr) (cp:Nat) (l:List (List Nat)) (hL:Lies w a (flatW l)) (hne:l≠[]) (hok:∀x∈l,ok x) (hm:l.length<=30000):
  Calls Tryz.prog 43 #[.pointer (some ⟨A.p,0,none⟩),.int .i64 (i:Int),.slice a l.length cp] w λe w'=>e=.returned (.int .i64 0)/\∃Q',Pl A (ct+1) w' Q' hv (upd S i l) Hd/\(∀k,Q' k->Qs k\/w.heap.size<=k)/\Upon (Wr A Qs) w w':=by
 have c0:=h.pool.cell 0;have c3:=h.pool.cell 3
 simp at c0 c3
 have hal:=all_length l hok;have hin:=h.top.1;have H:=jq h;have HLP:=jq h.pool.lt;have HPUT:=jq (Go.Proofs.YtfgjnpbffppocaaGreatDoor.Walk.put_nil a cp l w hL hok (by omega));obtain⟨m,hmm⟩:=jl l.length;have hm0:0<m:=by rw[hmm];exact List.length_pos_iff.2 hne
 have hnz: ((m:Int)==0)=false:=by
  have:¬(m:Int)=0:=by omega
  simpa using this
 rw[<-hmm]at HPUT⊢;have HM:=jq hmm;have HAL:=jq hal;have HNE:=jq hne;have HOK:=jq hok;clear h hL hmm hal hne hok
 go_enter Tryz.func43,Tryz.ntmps43
 go_wp2_with fail
 refine HPUT.out.mono ?_;rintro e w1 ⟨v1,rfl,hO1,hB1⟩;obtain⟨va,vc,rfl,hvc,hL1,_,_⟩:=own_shape hO1;have HF:=jq (Go.Proofs.YtfgjnpbffppocaaGreatDoor.Frame.put_nil 80 va vc (all l) w1 hL1 (by rw[HAL.out];omega));have HB1:=jq hB1;clear hO1 hB1 hL1 hvc
 go_wp2_with fail
 refine HF.out.mono ?_;rintro e w2 ⟨v2,rfl,hO2,hB2⟩;obtain⟨fa,fc,rfl,hfc,hL2,_,_⟩:=own_shape hO2;have hB12:=HB1.out.trans (hB2.mono HB1.out.size);have k0:=(hB12.cell (p:=⟨A.p,0,none⟩) HLP.out).trans c0;have k3:=(hB12.cell (p:=⟨A.p,3,none⟩) HLP.out).trans c3;have HL2:=jq hL2;have HB2:=jq hB12;have HP2:=jq (H.out.later hB12);have HN:=jq (name_any i (by omega) w2.drew);obtain⟨F,j,hst,hfl,hj⟩:=H.out.store;have hwr:∀W,Below w2.heap.size w2 W->Calls Tryz.prog 37 #[.pointer (some ⟨A.s,0,none⟩),.string ⟨(pname i).toArray⟩,.slice fa (Go.Proofs.YtfgjnpbffppocaaGreatDoor.Frame.frameL 80 (all l)).length fc] W λe w'=>e=.returned (.int .i64 0)/\∃Q',A.T.At w' Q' false (setF F (pname i) (some (Go.Proofs.YtfgjnpbffppocaaGreatDoor.Frame.frameL 80 (all l)))) (j+1)/\(∀k,Q' k->Qs k\/W.heap.size<=k)/\Upon Qs W w':=λW hW=>A.T.write (A.T.later hst (hB12.trans (hW.mono hB12.size))) (by omega) (pname i) (by have:=pname_len i;omega) (by have:=pname_len i;omega) fa fc _ (hL2.later hW) (by rw[Go.Proofs.YtfgjnpbffppocaaGreatDoor.Frame.frameL_length,HAL.out];omega)
 have HW:=jq hwr;have HFL:=jq hfl;have HNE4:=jq (show¬Qs A.p from λhq=>H.out.qs A.p hq (.inl rfl));have HJ:=jq hj;clear hO2 hB2 hB12 hL2 hfc c0 c3 hst hfl hwr hj
 go_wp2_with fail
 go_region_held3 (λw'=>w'.cell? ⟨A.p,0,none⟩=some (.pointer (some ⟨A.s,0,none⟩))) (first|exact k0|exact hk3|exact hk4) ((first|(go_at_call 22;refine HN.out.mono ?_;rintro e w3 ⟨rfl,hB3⟩;have hBd:=((Below.refl w2.heap.size w2).drew).trans hB3;have hk3:=(hBd.cell (p:=⟨A.p,0,none⟩) HP2.out.pool.lt).trans k0;dsimp only)|(go_at_call 37;refine(HW.out _ hBd).mono ?_;rintro e w4 ⟨rfl,Q4,hst4,hQ4,ho4⟩;have hp4:=(HP2.out.pool.below hBd HP2.out.pool.lt).upon ho4 HNE4.out;have hk4:=hp4.cell 0;simp at hk4;dsimp only)))
 have hBE:=HB2.out.trans (hBd.mono HB2.out.size);have ho:=(Upon.of_below (P:=Qs) hBE).trans ho4 (λk hk=>.inl hk);have hcs:¬Qs A.sm:=λhq=>H.out.qs A.sm hq (.inr (.inl rfl))
 have hsl:A.sm<w.heap.size:=H.out.lt _ (.inr (.inl (.inr (.inl rfl))));obtain⟨w5,f5,hrun,hm5,hs5,hf1,hf2,ho5,hz5⟩:=H.out.count (w1:=w4) (ho.block A.sm hsl hcs) i hi (.int .i64 (m:Int));have hk5:=hp4.cell 3
 simp at hk5
 have hQ4w:∀k,Q4 k->Qs k\/w.heap.size<=k:=λk hk=>(hQ4 k hk).imp id (λh=>Nat.le_trans hBE.size h)
 have hst5:=A.T.upon hst4 (Upon.of_only (P:=λk=>k=A.sm) ho5 (λg hg=>.inl (jE.1 hg))) (λk hk hq=>by
  rw[hk]at hq;rcases hQ4w _ hq with h1|h1
  ·exact hcs h1
  ·omega)
 have ho6:Upon (Wr A Qs) w w5:=(ho.mono (λk hk=>Or.inl hk)).trans (Upon.of_only (P:=Wr A Qs) ho5 (λg hg=>.inl (.inr (jE.1 hg)))) (λk hk=>.inl hk)
 have hfin:Pl A (ct+1) w5 Q4 hv (upd S i l) Hd:=H.out.wrote ho6 hst5 (Nat.succ_le_succ HJ.out) (by have:=files_upd HFL.out hi H.out.top.1 l;rwa [if_neg HNE.out]at this) hQ4w hm5 hs5 (λj hj=>by
  by_cases e:j=i
  ·subst e;rw[upd_same,if_neg HNE.out,<-HM.out];exact hf1
  ·rw[upd_other _ e];exact hf2 j hj e) (λj hj x hx=>by
  by_cases e:j=i
  ·subst e;rw[upd_same]at hx;exact HOK.out x hx
  ·rw[upd_other _ e]at hx;exact H.out.okS j hj x hx)
 have HFIN:=jq hfin;have HQ:=jq hQ4w;have HO6:=jq ho6;clear hfin hQ4w ho6 hst5 hm5 hs5 hf1 hf2 ho5 hz5 hp4 hst4 hQ4 ho4 hB3 hBd hBE ho hk3 hk4
 go_wp2_with fail
 go_ret
 exact⟨rfl,_,HFIN.out,HQ.out,HO6.out⟩
end Pool
namespace Pool
open Go.RowKit Go.Deep Mem Crc Walk
open Store (Sto Files setF setF_same setF_other nv)
theorem Pl.uncount {A:Pa} {ct:Nat} {w w1:World} {Qs:Nat->Prop} {hv:Nat->Option Value} {S Hd:Rows} (h:Pl A ct w Qs hv S Hd) (hk:w1.heap[A.sm]? =w.heap[A.sm]?) (i:Nat) (hi:i<A.n) (ty:TypeId):
  ∃w2 f',(Builtin.delete_ #[62,3] ty #[.map (some A.sm),.int .i64 (i:Int)]).run Tryz.prog w1=.ok (.tuple #[]) w2/\MapIs w2 3 A.sm f'/\(∀x,f' x≠none->∃i,i<A.n/\x=sK i)/\f' (sK i)=none/\(∀j,j<A.n->j≠i->f' (sK j)=if S j= []then none else some (.int .i64 ((S j).length:Int)))/\Only [A.sm] w1 w2/\w2.heap.size=w1.heap.size:=by
 obtain⟨f,hm,hs,hf⟩:=h.spilled;have hn:=h.top.1;obtain⟨w2,hrun,hm2,hg,hsz⟩:=(hm.keep hk).drop intKeyed Tryz.underlying62 (key_of (i:=i) (by omega)) ty;refine⟨w2,_,hrun,hm2,λx hx=>?_,setK_same _ _ _,λj hj hji=>?_,Only.of_grown hg (λg hg=>by cases hg;exact .inl (by simp)),hsz⟩
 ·by_cases e:x=sK i
  ·exact⟨i,hi,e⟩
  ·rw[setK_other _ e]at hx;exact hs x hx
 ·rw[setK_other _ (λe=>hji (sK_inj e))];exact hf j hj
theorem write_nil {A:Pa} {ct:Nat} {w:World} {Qs:Nat->Prop} {hv:Nat->Option Value} {S Hd:Rows} (h:Pl A ct w Qs hv S Hd) (hct:ct<90000) (i:Nat) (hi:i<A.n) (a:Option Addr) (cp:Nat) (he:S i≠[]):
  Calls Tryz.prog 43 #[.pointer (some ⟨A.p,0,none⟩),.int .i64 (i:Int),.slice a 0 cp] w λe w'=>e=.returned (.int .i64 0)/\∃Q',Pl A (ct+1) w' Q' hv (upd S i []) Hd/\(∀k,Q' k->Qs k\/w.heap.size<=k)/\Upon (Wr A Qs) w w':=by
 have k0:=h.pool.cell 0
 simp at k0
 have hin:=h.top.1;have H:=jq h;have HN:=jq (name_any i (by omega) w.drew);obtain⟨F,j,hst,hfl,hj⟩:=H.out.store
 have hfile:F (pname i)≠none:=by
  rw[hfl.2 i hi,if_neg he];exact λe=>by cases e
 have hwr:∀W,Below w.heap.size w W->Calls Tryz.prog 70 #[.pointer (some ⟨A.s,0,none⟩),.string ⟨(pname i).toArray⟩] W λe w'=>e=.returned (.int .i64 0)/\∃Q',A.T.At w' Q' false (setF F (pname i) none) (j+1)/\(∀k,Q' k->Qs k\/W.heap.size<=k)/\Upon Qs W w':=λW hW=>A.T.remove (A.T.later hst hW) (by omega) (pname i) hfile
 have HW:=jq hwr;have HFL:=jq hfl;have HNE4:=jq (show¬Qs A.p from λhq=>H.out.qs A.p hq (.inl rfl));have HJ:=jq hj;clear hst hfl hwr h hfile he hj
 go_enter Tryz.func43,Tryz.ntmps43
 go_wp2_with fail
 go_region_held3 (λw'=>w'.cell? ⟨A.p,0,none⟩=some (.pointer (some ⟨A.s,0,none⟩))) (first|exact k0|exact hk3|exact hk4) ((first|(go_at_call 22;refine HN.out.mono ?_;rintro e w3 ⟨rfl,hB3⟩;have hBd:=((Below.refl w.heap.size w).drew).trans hB3;have hk3:=(hBd.cell (p:=⟨A.p,0,none⟩) H.out.pool.lt).trans k0;dsimp only)|(go_at_call 70;refine(HW.out _ hBd).mono ?_;rintro e w4 ⟨rfl,Q4,hst4,hQ4,ho4⟩;have hp4:=(H.out.pool.below hBd H.out.pool.lt).upon ho4 HNE4.out;have hk4:=hp4.cell 0;simp at hk4;dsimp only)))
 have ho:=(Upon.of_below (P:=Qs) hBd).trans ho4 (λk hk=>.inl hk);have hcs:¬Qs A.sm:=λhq=>H.out.qs A.sm hq (.inr (.inl rfl))
 have hsl:A.sm<w.heap.size:=H.out.lt _ (.inr (.inl (.inr (.inl rfl))));obtain⟨w5,f5,hrun,hm5,hs5,hf1,hf2,ho5,hz5⟩:=H.out.uncount (w1:=w4) (ho.block A.sm hsl hcs) i hi 0;have hk5:=hp4.cell 3
 simp at hk5
 have hQ4w:∀k,Q4 k->Qs k\/w.heap.size<=k:=λk hk=>(hQ4 k hk).imp id (λh=>Nat.le_trans hBd.size h)
 have hst5:=A.T.upon hst4 (Upon.of_only (P:=λk=>k=A.sm) ho5 (λg hg=>.inl (jE.1 hg))) (λk hk hq=>by
  rw[hk]at hq;rcases hQ4w _ hq with h1|h1
  ·exact hcs h1
  ·omega)
 have ho6:Upon (Wr A Qs) w w5:=(ho.mono (λk hk=>Or.inl hk)).trans (Upon.of_only (P:=Wr A Qs) ho5 (λg hg=>.inl (.inr (jE.1 hg)))) (λk hk=>.inl hk)
 have hfin:Pl A (ct+1) w5 Q4 hv (upd S i []) Hd:=H.out.wrote ho6 hst5 (Nat.succ_le_succ HJ.out) (by have:=files_upd HFL.out hi H.out.top.1 [];rwa [if_pos rfl]at this) hQ4w hm5 hs5 (λj hj=>by
  by_cases e:j=i
  ·subst e;rw[upd_same,if_pos rfl];exact hf1
  ·rw[upd_other _ e];exact hf2 j hj e) (λj hj x hx=>by
  by_cases e:j=i
  ·subst e;rw[upd_same]at hx;cases hx
  ·rw[upd_other _ e]at hx;exact H.out.okS j hj x hx)
 have HFIN:=jq hfin;have HQ:=jq hQ4w;have HO6:=jq ho6;clear hfin hQ4w ho6 hst5 hm5 hs5 hf1 hf2 ho5 hz5 hp4 hst4 hQ4 ho4 hB3 hBd ho hk3 hk4
 go_wp2_with fail
 go_ret
 exact⟨rfl,_,HFIN.out,HQ.out,HO6.out⟩
end Pool
namespace Pool
open Go.RowKit Go.Deep Mem Crc Walk
open Store (Sto Files setF setF_same setF_other nv)
def Went (A:Pa) (ct:Nat) (P:Nat->Prop) (w w':World) (S Hd:Rows) (X:Nat->Prop):Prop:=
 ∃Qs hv,Pl A ct w' Qs hv S Hd/\(∀k,allQ A Qs hv k->P k\/w.heap.size<=k)/\(∀k,X k->¬allQ A Qs hv k)/\Upon P w w'
def updv (hv:Nat->Option Value) (i:Nat) (u:Option Value):Nat->Option Value:=λj=>if j=i then u else hv j
theorem updv_same (hv:Nat->Option Value) (i:Nat) (u:Option Value):updv hv i u i=u:=if_pos rfl
theorem updv_other {hv:Nat->Option Value} {i j:Nat} (u:Option Value) (h:j≠i):updv hv i u j=hv j:=if_neg h
theorem Pl.holding {A:Pa} {ct:Nat} {w w':World} {Qs:Nat->Prop} {hv:Nat->Option Value} {S Hd:Rows} (h:Pl A ct w Qs hv S Hd) {i:Nat} (hi:i<A.n) {F:List Nat} (ho:Only F w w')
  (hF:∀k∈F,k=A.p\/k=A.hm\/(∃v,hv i=some v/\v.ownBlock=some k)\/w.heap.size<=k) (l:List (List Nat))
  (hp:Blk w' A.p 65 #[.pointer (some ⟨A.s,0,none⟩),.int .i64 (A.n:Int),.int .i64 (A.room:Int),.map (some A.sm),.map (some A.hm),.int .i64 (many (upd Hd i l) A.n:Int)])
  {f':Lit->Option Value} (hm:MapIs w' 3 A.hm f') (hsup:∀x,f' x≠none->∃i,i<A.n/\x=sK i) (u:Option Value) (hu:match u with|none=>l= []|some v=>OwnW w' 0 v l) (hfi:f' (sK i)=u) (hfo:∀j,j<A.n->j≠i->f' (sK j)=hv j)
  (hub:∀v k,u=some v->v.ownBlock=some k->(∃v0,hv i=some v0/\v0.ownBlock=some k)\/w.heap.size<=k) (hok:∀x∈l,ok x):Pl A ct w' Qs (updv hv i u) S (upd Hd i l):=by
 obtain⟨f,hmf,hfs,hff⟩:=h.spilled;obtain⟨F0,j0,hst,hfl,hj0⟩:=h.store
 have hsmF:A.sm∉F:=λhmm=>by
  rcases hF _ hmm with e|e|⟨v,hv1,hv2⟩|e
  ·exact map_ne_blk hmf h.pool e
  ·exact h.maps e
  ·exact(h.outside i v A.sm hi hv1 hv2).2 (.inr (.inl rfl))
  ·have:=hmf.lt
   omega
 have hQF:∀k∈F,¬Qs k:=λk hk hq=>by
  rcases hF _ hk with e|e|⟨v,hv1,hv2⟩|e
  ·exact h.qs k hq (.inl e)
  ·exact h.qs k hq (.inr (.inr e))
  ·exact(h.outside i v k hi hv1 hv2).1 hq
  ·have:=A.T.lt hst k hq
   omega
 have hblt:∀j v k,j<A.n->hv j=some v->v.ownBlock=some k->k<w.heap.size:=λj v k hj hvj hk=>h.lt k (.inr (.inr ⟨j,v,hj,hvj,hk⟩))
 refine⟨hp,⟨F0,j0,A.T.upon hst (Upon.of_only (P:=λk=>k∈F) ho (λg hg=>.inl hg)) hQF,hfl,hj0⟩,⟨f,hmf.keep (ho.block _ hmf.lt hsmF),hfs,hff⟩,⟨f',hm,hsup,λj hj=>?_⟩,λj hj=>?_,λj k u1 v1 hj hk hjk h1 h2=>?_,λj v k hj hvj hk=>?_,h.qs,h.maps,h.okS,λj hj x hx=>?_,h.top⟩
 ·by_cases e:j=i
  ·subst e;rw[updv_same];exact hfi
  ·rw[updv_other _ e];exact hfo j hj e
 ·by_cases e:j=i
  ·subst e;rw[updv_same,upd_same];exact hu
  ·rw[updv_other _ e,upd_other _ e];have hr:=h.rows j hj
   cases hc:hv j with
   |none=>rw[hc]at hr;exact hr
   |some v=>
    rw[hc]at hr;refine own_only hr ho (λk hk hmm=>?_);rcases hF _ hmm with e1|e1|⟨v0,hv1,hv2⟩|e1
    ·exact(h.outside j v k hj hc hk).2 (.inl e1)
    ·exact(h.outside j v k hj hc hk).2 (.inr (.inr e1))
    ·rcases h.apart i j v0 v hi hj (Ne.symm e) hv1 hc with e2|e2
     ·rw[e2]at hv2;cases hv2
     ·exact e2 (hv2.trans hk.symm)
    ·have:=hblt j v k hj hc hk
     omega
 ·by_cases e1:j=i
  ·subst e1;rw[updv_same]at h1;rw[updv_other _ (Ne.symm hjk)]at h2
   cases hb:u1.ownBlock with
   |none=>exact .inl rfl
   |some q=>
    refine .inr (λe2=>?_);rcases hub u1 q h1 hb with⟨v0,hv1,hv2⟩|hn
    ·rcases h.apart j k v0 v1 hj hk hjk hv1 h2 with e3|e3
     ·rw[e3]at hv2;cases hv2
     ·exact e3 (hv2.trans e2)
    ·have:=hblt k v1 q hk h2 e2.symm
     omega
  ·rw[updv_other _ e1]at h1
   by_cases e2:k=i
   ·subst e2;rw[updv_same]at h2
    cases hb:u1.ownBlock with
    |none=>exact .inl rfl
    |some q=>
     refine .inr (λe3=>?_);rcases hub v1 q h2 e3.symm with⟨v0,hv1,hv2⟩|hn
     ·rcases h.apart j k u1 v0 hj hk hjk h1 hv1 with e4|e4
      ·rw[e4]at hb;cases hb
      ·exact e4 (hb.trans hv2.symm)
     ·have:=hblt j u1 q hj h1 hb
      omega
   ·rw[updv_other _ e2]at h2;exact h.apart j k u1 v1 hj hk hjk h1 h2
 ·by_cases e:j=i
  ·subst e;rw[updv_same]at hvj;rcases hub v k hvj hk with⟨v0,hv1,hv2⟩|hn
   ·exact h.outside j v0 k hj hv1 hv2
   ·refine⟨λhq=>?_,λhq=>?_⟩
    ·have:=A.T.lt hst k hq
     omega
    ·have:=h.lt k (.inr (.inl hq))
     omega
  ·rw[updv_other _ e]at hvj;exact h.outside j v k hj hvj hk
 ·by_cases e:j=i
  ·subst e;rw[upd_same]at hx;exact hok x hx
  ·rw[upd_other _ e]at hx;exact h.okH j hj x hx
theorem allQ_holding {A:Pa} {Qs:Nat->Prop} {hv:Nat->Option Value} {i:Nat} {u:Option Value} {N:Nat} (hub:∀v k,u=some v->v.ownBlock=some k->(∃v0,hv i=some v0/\v0.ownBlock=some k)\/N<=k) (hi:i<A.n):∀k,allQ A Qs (updv hv i u) k->allQ A Qs hv k\/N<=k:=by
 rintro k (hk|hk|⟨j,v,hj,hvj,hk⟩)
 ·exact .inl (.inl hk)
 ·exact .inl (.inr (.inl hk))
 ·by_cases e:j=i
  ·subst e;rw[updv_same]at hvj;rcases hub v k hvj hk with⟨v0,h1,h2⟩|h1
   ·exact .inl (.inr (.inr ⟨j,v0,hj,h1,h2⟩))
   ·exact .inr h1
  ·rw[updv_other _ e]at hvj;exact .inl (.inr (.inr ⟨j,v,hj,hvj,hk⟩))
theorem Pl.hold {A:Pa} {ct:Nat} {w w1:World} {Qs:Nat->Prop} {hv:Nat->Option Value} {S Hd:Rows} (h:Pl A ct w Qs hv S Hd) (hk:w1.heap[A.hm]? =w.heap[A.hm]?) (i:Nat) (hi:i<A.n) (v:Value):
  ∃w2 f',(Instr.mapUpdate 63 (.map (some A.hm)) (.int .i64 (i:Int)) v).run Tryz.prog w1=.ok () w2/\MapIs w2 3 A.hm f'/\(∀x,f' x≠none->∃i,i<A.n/\x=sK i)/\f' (sK i)=some v/\(∀j,j<A.n->j≠i->f' (sK j)=hv j)/\Only [A.hm] w1 w2/\w2.heap.size=w1.heap.size:=by
 obtain⟨f,hm,hs,hf⟩:=h.held;have hn:=h.top.1
 obtain⟨w2,hrun,hm2,hg,hsz⟩:=(hm.keep hk).update intKeyed Tryz.underlying63 ((List.range A.n).map sK) (λx hx=>by
  obtain⟨j,hj,rfl⟩:=hs x hx;exact List.mem_map.2 ⟨j,List.mem_range.2 hj,rfl⟩) (by simp[maxLen];omega) (key_of (i:=i) (by omega)) v
 refine⟨w2,_,hrun,hm2,λx hx=>?_,setK_same _ _ _,λj hj hji=>?_,Only.of_grown hg (λg hg=>by cases hg;exact .inl (by simp)),hsz⟩
 ·by_cases e:x=sK i
  ·exact⟨i,hi,e⟩
  ·rw[setK_other _ e]at hx;exact hs x hx
 ·rw[setK_other _ (λe=>hji (sK_inj e))];exact hf j hj
theorem Pl.unhold {A:Pa} {ct:Nat} {w w1:World} {Qs:Nat->Prop} {hv:Nat->Option Value} {S Hd:Rows} (h:Pl A ct w Qs hv S Hd) (hk:w1.heap[A.hm]? =w.heap[A.hm]?) (i:Nat) (hi:i<A.n) (ty:TypeId):
  ∃w2 f',(Builtin.delete_ #[63,3] ty #[.map (some A.hm),.int .i64 (i:Int)]).run Tryz.prog w1=.ok (.tuple #[]) w2/\MapIs w2 3 A.hm f'/\(∀x,f' x≠none->∃i,i<A.n/\x=sK i)/\f' (sK i)=none/\(∀j,j<A.n->j≠i->f' (sK j)=hv j)/\Only [A.hm] w1 w2/\w2.heap.size=w1.heap.size:=by
 obtain⟨f,hm,hs,hf⟩:=h.held;have hn:=h.top.1;obtain⟨w2,hrun,hm2,hg,hsz⟩:=(hm.keep hk).drop intKeyed Tryz.underlying63 (key_of (i:=i) (by omega)) ty;refine⟨w2,_,hrun,hm2,λx hx=>?_,setK_same _ _ _,λj hj hji=>?_,Only.of_grown hg (λg hg=>by cases hg;exact .inl (by simp)),hsz⟩
 ·by_cases e:x=sK i
  ·exact⟨i,hi,e⟩
  ·rw[setK_other _ e]at hx;exact hs x hx
 ·rw[setK_other _ (λe=>hji (sK_inj e))];exact hf j hj
theorem run_clear {w:World} {base:Nat} {v:Value} {l:List (List Nat)} (h:OwnW w base v l) (hne:l≠[]) (ty:TypeId):
  ∃g w',v.ownBlock=some g/\(Builtin.clear_ #[54] ty #[v]).run Tryz.prog w=.ok (.tuple #[]) w'/\Only [g] w w'/\w'.heap.size=w.heap.size:=by
 have hl0:0<l.length:=List.length_pos_iff.2 hne;rcases h.2 with⟨_,h0⟩|⟨g,cap,cur,rfl,_,hb,hle,_,hsz,_⟩
 ·omega
 obtain⟨n,hn⟩:∃n,l.length=n:=⟨_,rfl⟩;rw[hn]at hl0 hle⊢
 have hz: (Builtin.zeroCells #[.int .u32 0,.int .u32 0,.int .u32 0,.int .u32 0,.int .u32 0,.int .u32 0,.int .u32 0] n).toList.length=n*7:=by
  rw[Array.length_toList,size_zeroCells]
  rfl
 have hone:∀u∈(Builtin.zeroCells #[.int .u32 0,.int .u32 0,.int .u32 0,.int .u32 0,.int .u32 0,.int .u32 0,.int .u32 0] n).toList,u.oneCell'=true:=λu hu=>by
  unfold Builtin.zeroCells at hu;simp only[Array.toList_map,List.mem_map]at hu;obtain⟨j,_,rfl⟩:=hu;have:∀q,q<7->(#[Value.int .u32 0,.int .u32 0,.int .u32 0,.int .u32 0,.int .u32 0,.int .u32 0,.int .u32 0][q]!).oneCell'=true:=by decide
  exact this _ (Nat.mod_lt _ (by decide))
 have hst:=run_storeCells_at (P:=Tryz.prog) g 0 26 _ 0 cur w hb (by rw[hz,hsz];omega) hone;obtain⟨Z,hZ⟩:=jl ((Builtin.zeroCells #[.int .u32 0,.int .u32 0,.int .u32 0,.int .u32 0,.int .u32 0,.int .u32 0,.int .u32 0] n).toList);rw[<-hZ]at hst;obtain⟨R,hR⟩:=jl ((cur.toList.take (0+0)++Z++cur.toList.drop (0+0+Z.length)).toArray);rw[<-hR]at hst;refine⟨g,w.setRow g R,rfl,?_,⟨rfl,rfl,rfl,by simp[World.setRow],λk hk hn=>?_⟩,by simp[World.setRow]⟩
 ·obtain⟨m,rfl⟩:∃m,n=m+1:=⟨n-1,by omega⟩
  simp[Builtin.clear_,run_underlying Tryz.underlying54,Result.andThen,Value.cells,<-hZ,hst]
 ·have:k≠g:=by simpa using hn
  simp[World.setRow,Array.getElem?_modify,this.symm]
end Pool
namespace Pool
open Go.RowKit Go.Deep Mem Crc Walk
open Store (Sto Files setF setF_same setF_other nv)
open Go.Proofs.YtfgjnpbffppocaaGreatDoor.Frame (allF)
theorem all_short (a:Option Addr) (cp n:Nat) (w:World) (h:n%28≠0):
  Calls Tryz.prog 56 #[.slice a n cp] w λe w'=>e=.returned (.tuple #[.slice none 0 0,.int .i64 2])/\w'=w:=by
 have hmod2: ((n:Int)%28 !=0)=true:=by simp;omega
 go_enter Tryz.func56,Tryz.ntmps56
 go_wp2_with fail
 go_ret2
 exact⟨rfl,rfl⟩
def ReadG (b:List UInt8) (w:World) (e:Ending) (w':World):Prop:=match rdS b with
 |some l=>∃v,e=.returned (.tuple #[v,.int .i64 0])/\OwnW w' w.heap.size v l
 |none=>e=.returned (.tuple #[.slice none 0 0,.int .i64 5])
theorem rdS_none {b:List UInt8} (h:∀body,allF (b.length+1) b=([(80,body)],0)->body≠[]->body.length%28=0->False):rdS b=none:=by
 cases hr:rdS b with
 |none=>rfl
 |some l=>
  obtain⟨body,h1,h2,h3,_⟩:=rdS_one hr;exact(h body h1 h2 h3).elim
theorem readG_none {b:List UInt8} {w w':World} (h:rdS b=none):ReadG b w (.returned (.tuple #[.slice none 0 0,.int .i64 5])) w':=by
 unfold ReadG;rw[h]
theorem rdS_some {b body:List UInt8} (h:allF (b.length+1) b=([(80,body)],0)) (h1:body≠[]) (h2:body.length%28=0):rdS b=some (unall (body.length/28) body):=by
 unfold rdS;rw[h];dsimp only;rw[if_pos ⟨rfl,h1,h2⟩]
theorem one_of {l:List Go.Proofs.YtfgjnpbffppocaaGreatDoor.Frame.Sec} (h:l.length=1):∃sec,l= [sec]:=by
 match l,h with
 | [sec],_=>exact⟨sec,rfl⟩
theorem read_gen {p s sm:Nat} (T:Sto s) {w:World} {Qs:Nat->Prop} {F:Files} {j:Nat} (hst:T.At w Qs false F j) (c0:w.cell? ⟨p,0,none⟩=some (.pointer (some ⟨s,0,none⟩))) (c3:w.cell? ⟨p,3,none⟩=some (.map (some sm))) (hp:p<w.heap.size) (i:Nat) (hi:i<4096)
  (hs: (Instr.lookup 62 (.map (some sm)) (.int .i64 (i:Int)) false).run Tryz.prog w=.ok (.int .i64 1) w) (b:List UInt8) (hC:F (pname i)=some b):
  Calls Tryz.prog 23 #[.pointer (some ⟨p,0,none⟩),.int .i64 (i:Int)] w λe w'=>ReadG b w e w'/\Below w.heap.size w w':=by
 have hbl:=(T.short hst _ _ hC).2;have HN:=jq (name_any i (by omega) w.drew);have HLP:=jq hp;have hrd:∀W,Below w.heap.size w W->Calls Tryz.prog 39 #[.pointer (some ⟨s,0,none⟩),.string ⟨(pname i).toArray⟩] W λe w'=>∃v,e=.returned (.tuple #[v,.int .i64 0])/\OwnB w' W.heap.size v b/\Below W.heap.size W w':=λW hW=>T.read_some (T.later hst hW) (pname i) _ hC
 have HRD:=jq hrd;have HBL:=jq hbl;clear hrd hst hC hp hbl
 go_enter Tryz.func23,Tryz.ntmps23
 go_wp2_with fail
 go_region_held3 (λw'=>w'.cell? ⟨p,0,none⟩=some (.pointer (some ⟨s,0,none⟩))) (first|exact c0|exact hk3|exact hk2) ((first|(go_at_call 22;refine HN.out.mono ?_;rintro e w1 ⟨rfl,hB1⟩;have hBd:=((Below.refl w.heap.size w).drew).trans hB1;have hk2:=(hBd.cell (p:=⟨p,0,none⟩) HLP.out).trans c0;dsimp only)|(go_at_call 39;refine(HRD.out _ hBd).mono ?_;rintro e w2 ⟨v2,rfl,hO2,hB2⟩;have hBe:=hBd.trans (hB2.mono hBd.size);have hk3:=(hBe.cell (p:=⟨p,0,none⟩) HLP.out).trans c0;dsimp only)))
 obtain⟨va,vc,rfl,hvc,hL,_,_⟩:=own_shape hO2;have hAll:=Go.Proofs.YtfgjnpbffppocaaGreatDoor.Frame.all_any va vc _ w2 hL hvc (by have:=HBL.out;omega);have HAL:=jq hAll;have HBE:=jq hBe;clear hAll hL hO2 hB2 hBe hk3 hk2 hBd hB1
 go_wp2_with fail
 refine HAL.out.mono ?_;rintro e w3 ⟨⟨v3,l,rfl,hO3,hkb,hbod⟩,hB3⟩;obtain⟨va3,vc3,rfl,hvc3,hL3,_,_⟩:=own_shape hO3;have HB3:=jq (HBE.out.trans (hB3.mono HBE.out.size));obtain⟨er,her⟩:=jl ((Go.Proofs.YtfgjnpbffppocaaGreatDoor.Frame.allF (b.length+1) b).2);rw[<-her];have HER:=jq her;have HKB:=jq hkb;have HBOD:=jq hbod;have HL3:=jq hL3;obtain⟨nl,hnl⟩:=jl l.length;rw[<-hnl];have HNL:=jq hnl;clear hkb hbod hL3 hO3 hB3 her hnl
 by_cases he:er=0
 ·subst he
  by_cases h1:nl=1
  ·subst h1;obtain⟨sec,hse⟩:=one_of HNL.out.symm;have hL4:=HL3.out;have hkb:=HKB.out;have hbd:=HBOD.out sec (by rw[hse];simp);rw[hse]at hL4 hkb;obtain⟨g3,off3,rfl,hg3,hc3⟩:=hL4.resolve_left (λe=>by simp[Go.Proofs.YtfgjnpbffppocaaGreatDoor.Frame.flatS,Go.Proofs.YtfgjnpbffppocaaGreatDoor.Frame.Sec.vs]at e);obtain⟨kd,hkd⟩:∃kd:Nat,kd=sec.kind.toNat:=⟨_,rfl⟩;have k0:=hc3 0 (.int .u8 (kd:Int)) (by simp[Go.Proofs.YtfgjnpbffppocaaGreatDoor.Frame.flatS,Go.Proofs.YtfgjnpbffppocaaGreatDoor.Frame.Sec.vs,hkd,bv]);have k1:=hc3 1 (.slice sec.a sec.body.length sec.cp) (by simp[Go.Proofs.YtfgjnpbffppocaaGreatDoor.Frame.flatS,Go.Proofs.YtfgjnpbffppocaaGreatDoor.Frame.Sec.vs]);rw[Nat.add_zero]at k0;have hallF:allF (b.length+1) b=([(sec.kind,sec.body)],0):=Prod.ext hkb.symm HER.out.symm;obtain⟨va4,vc4,ev4,hvc4,hLb,_,_⟩:=own_shape hbd;injection ev4 with ea4 _ ec4;rw[<-ea4]at hLb;rw[<-ec4]at hvc4;have HKD:=jq hkd;have HAF:=jq hallF;obtain⟨sa,hsa⟩:=jl sec.a;obtain⟨sc,hsc⟩:=jl sec.cp;obtain⟨body,hbody⟩:=jl sec.body;obtain⟨m,hm⟩:=jl body.length;rw[<-hsa,<-hbody]at hLb;rw[<-hsc,<-hbody,<-hm]at hvc4;rw[<-hsa,<-hsc,<-hbody,<-hm]at k1;rw[<-hbody]at HAF;have HLB:=jq hLb;have HMM:=jq hm
   have hmb:m<=b.length:=by
    have e:=congrArg List.length (allF_one hallF);rw[Go.Proofs.YtfgjnpbffppocaaGreatDoor.Frame.frameL_length,<-hbody,<-hm]at e
    omega
   clear hkb hbd hL4 hc3 hkd hallF ea4 ec4 hLb hm hbody hsa hsc
   by_cases hk:kd=80
   ·subst hk;have hkind:sec.kind=80:=UInt8.toNat_inj.1 HKD.out.symm
    by_cases hm0:m=0
    ·subst hm0
     have hnone:rdS b=none:=rdS_none (λbody' ha hne _=>by
      rw[HAF.out]at ha;injection ha with ha;injection ha with ha;injection ha with _ ha;rw[<-ha]at hne;exact hne (List.eq_nil_of_length_eq_zero HMM.out.symm))
     have HNO:=jq hnone;clear hnone
     go_wp2_with fail
     go_ret2
     exact⟨readG_none HNO.out,HB3.out⟩
    ·have hmz: ((m:Int)==0)=false:=beq_eq_false_iff_ne.2 (by omega);have hne:body≠[]:=λe=>hm0 (by rw[HMM.out,e];rfl)
     have HNE:=jq hne;clear hne
     by_cases hmod:m%28=0
     ·have hN:body.length=m/28*28:=by rw[<-HMM.out];omega
      have hwa:=all_ok sa sc (m/28) body w3 HLB.out (by rw[<-HMM.out];exact hvc4) hN (by have:=HBL.out;omega);rw[<-HMM.out]at hwa;have HWA:=jq hwa;have HRS:=jq (rdS_some (by rw[HAF.out,hkind]) HNE.out (by rw[<-HMM.out];exact hmod));clear hwa hN
      go_wp2_with fail
      refine HWA.out.mono ?_;rintro e w4 ⟨v4,rfl,hO4,hB4⟩;have hz:=HB3.out.size
      have hO5:OwnW w4 w.heap.size v4 (unall (body.length/28) body):=by
       rw[<-HMM.out];show _=_/\_;rw[unall_length];exact own_mono hO4 hz
      have HO5:=jq hO5;have HB4:=jq (HB3.out.trans (hB4.mono hz));clear hO4 hB4 hO5
      go_wp2_with fail
      go_ret2
      refine⟨?_,HB4.out⟩;unfold ReadG;rw[HRS.out];exact⟨_,rfl,HO5.out⟩
     ·have hws:=all_short sa sc m w3 hmod;have HWS:=jq hws
      have hnone:rdS b=none:=rdS_none (λbody' ha _ h28=>by
       rw[HAF.out]at ha;injection ha with ha;injection ha with ha;injection ha with _ ha;rw[<-ha,<-HMM.out]at h28;exact hmod h28)
      have HNO:=jq hnone;clear hws hnone
      go_wp2_with fail
      refine HWS.out.mono ?_;rintro e w4 ⟨rfl,rfl⟩
      go_wp2_with fail
      go_ret2
      exact⟨readG_none HNO.out,HB3.out⟩
   ·have hkz: ((kd:Int)==80)=false:=beq_eq_false_iff_ne.2 (by omega)
    have hnone:rdS b=none:=rdS_none (λbody' ha _ _=>by
     rw[HAF.out]at ha;injection ha with ha;injection ha with ha;injection ha with ha;exact hk (by rw[HKD.out,ha];rfl))
    have HNO:=jq hnone;clear hnone
    go_wp2_with fail
    go_ret2
    exact⟨readG_none HNO.out,HB3.out⟩
  ·have hnone:rdS b=none:=rdS_none (λbody ha _ _=>h1 (by have:=congrArg List.length HKB.out;rw[ha]at this;simpa[<-HNL.out]using this));have HNO:=jq hnone;have h1d: ((nl:Int) !=1)=true:=by simp;omega
   clear hnone
   go_wp2_with fail
   go_ret2
   exact⟨readG_none HNO.out,HB3.out⟩
 ·have hnone:rdS b=none:=rdS_none (λbody ha _ _=>he (by rw[HER.out,ha]));have HNO:=jq hnone;have hd: (er==0)=false:=by simpa using he
  clear hnone
  go_wp2_with fail
  go_ret2
  exact⟨readG_none HNO.out,HB3.out⟩
end Pool
end Go.Proofs.YtfgjnpbffppocaaGreatDoor
