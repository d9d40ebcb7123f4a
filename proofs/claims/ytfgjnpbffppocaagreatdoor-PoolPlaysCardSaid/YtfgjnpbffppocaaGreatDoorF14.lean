/- Part. -/
import Derived.Test.YtfgjnpbffppocaaGreatDoorF0
import Derived.Test.YtfgjnpbffppocaaGreatDoorF0Q
import Derived.Test.YtfgjnpbffppocaaGreatDoorF2
import Derived.Test.YtfgjnpbffppocaaGreatDoorF4
import Derived.Test.YtfgjnpbffppocaaGreatDoorF11
import Derived.Test.YtfgjnpbffppocaaGreatDoorF13
import Derived.Test.YtfgjnpbffppocaaGreatDoorShelf
set_option maxHeartbeats 400000
set_option maxRecDepth 100000
namespace Go.Proofs.YtfgjnpbffppocaaGreatDoor
namespace Store
open Go.RowKit Go.Deep Mem Crc Disk Man Go.Maps
theorem contains_name (v:Value) (B:Nat) (ss:List (List UInt8)) (nm:List UInt8) (w:World) (h:w.ownsRow B 9 1 v ss.length (ss.map encStr)) (hin:nm∈ss) (hm:ss.length<=1000000):
  Calls Tryz.prog 107 #[v,nv nm] w λe w'=>e=.returned (.bool true)/\w'=w:=by
 obtain⟨a,cap,rfl,hc,hL,_,_⟩:=own_shape h
 obtain⟨g,off,rfl,_,hcs⟩:=hL.resolve_left (λe=>by
  rw[List.map_eq_nil_iff]at e;subst e;cases hin)
 have:=Tryz.slices_Contains_string g off ss.length cap (ss.map λl=>(⟨l.toArray⟩:ByteArray)) ⟨nm.toArray⟩ w (by simp) (by omega) (λj hj=>by
  rw[jP]at hj;have:=hcs j (encStr ss[j]) (by simp[hj]);rw[this]
  simp[hj])
 have hci:Lib.containsS ((ss.map λl=>(⟨l.toArray⟩:ByteArray)).take ss.length) ⟨nm.toArray⟩=true:=by
  rw[Lib.containsS_iff,jW (by simp)];exact List.mem_map.2 ⟨nm,hin,rfl⟩
 rw[hci]at this;exact this
theorem remove_any {w:World} {Q:Nat->Prop} {s d g N cm:Nat} {C:Chg} (h:St w Q s d g N cm false C) (L:List (List UInt8)) (hL:∀x,C x≠none->x∈L) (hn:L.length<=1000000) (hLn:∀x∈L,x.length<=1000000) (nm:List UInt8) (hf:isFile C nm=true):
  Calls Tryz.prog 70 #[.pointer (some ⟨s,0,none⟩),nv nm] w λe w'=>e=.returned (.int .i64 0)/\∃Q',St w' Q' s d g N cm false (setC C nm (some none))/\(∀k,Q' k->Q k\/w.heap.size<=k)/\(∀k,Q k->Q' k)/\Only [cm] w w':=by
 have HD:=jq (down_any h);have HN:=jq (names_any h L hL hn hLn);have H:=jq h;have HLS:=jq h.store.lt;have hnm:nm.length<=1000000:=hLn nm (hL nm (λe=>by unfold isFile at hf;rw[e]at hf;cases hf));clear h;obtain⟨x,hx⟩:=jl (nv nm);rw[<-hx];have HX:=jq hx;clear hx
 go_enter Tryz.func70,Tryz.ntmps70
 go_wp2_with fail
 refine HD.out.mono ?_;rintro e w1 ⟨rfl,rfl⟩
 go_wp2_with fail
 refine HN.out.mono ?_;rintro e w2 ⟨v,ss,rfl,hO,hmem,hle,hB2⟩;have hC:=jq (contains_name v _ ss nm w2 hO ((hmem nm).2 hf) (by omega));rw[<-HX.out]at hC;obtain⟨w3,hrun,hst3,ho3,hs3⟩:=H.out.changed (w1:=w2) hB2 L hL hn nm hnm none (.agg #[.slice none 0 0,.bool true]) rfl;rw[<-HX.out]at hrun;have c4:=(hB2.cell (p:=⟨s,4,none⟩) HLS.out).trans (H.out.store.cell 4)
 simp at c4
 have HST3:=jq hst3;have HO3:=jq ho3;clear hO hmem hB2 hst3 ho3 hs3
 go_wp2_with fail
 refine hC.out.mono ?_;rintro e w4 ⟨rfl,rfl⟩
 go_wp2_with fail
 go_ret
 exact⟨rfl,_,HST3.out,λk hk=>hk.imp id And.left,λk hk=>.inl hk,HO3.out⟩
theorem remove_off {w:World} {Q:Nat->Prop} {s d g N cm:Nat} {C:Chg} (h:St w Q s d g N cm true C) (x:Value):
  Calls Tryz.prog 70 #[.pointer (some ⟨s,0,none⟩),x] w λe w'=>e=.returned (.int .i64 6)/\w'=w:=by
 have HD:=jq (down_any h);clear h
 go_enter Tryz.func70,Tryz.ntmps70
 go_wp2_with fail
 refine HD.out.mono ?_;rintro e w1 ⟨rfl,rfl⟩
 go_wp2_with fail
 go_ret
 exact⟨rfl,rfl⟩
end Store
namespace Store
open Go.RowKit Go.Deep Mem Crc Disk Man Go.Maps
abbrev Files:=List UInt8->Option (List UInt8)
noncomputable def setF (F:Files) (nm:List UInt8) (b:Option (List UInt8)):Files:=λx=>open Classical in if x=nm then b else F x
theorem setF_same (F:Files) (nm:List UInt8) (b:Option (List UInt8)):setF F nm b nm=b:=by unfold setF;rw[if_pos rfl]
theorem setF_other {F:Files} {nm x:List UInt8} (b:Option (List UInt8)) (h:x≠nm):setF F nm b x=F x:=by unfold setF;rw[if_neg h]
structure Sto (s:Nat) where
 At:World->(Nat->Prop)->Bool->Files->Nat->Prop
 lt:∀{w:World} {Q:Nat->Prop} {off:Bool} {F:Files} {n:Nat},At w Q off F n->∀k,Q k->k<w.heap.size
 keep:∀{w w':World} {Q:Nat->Prop} {off:Bool} {F:Files} {n:Nat},At w Q off F n->w.heap.size<=w'.heap.size->(∀k,Q k->w'.heap[k]? =w.heap[k]?)->At w' Q off F n
 short:∀{w:World} {Q:Nat->Prop} {off:Bool} {F:Files} {n:Nat},At w Q off F n->∀nm b,F nm=some b->nm.length<=32/\b.length<=1048576
 write:∀{w:World} {Q:Nat->Prop} {F:Files} {n:Nat},At w Q false F n->n<100000->∀(nm:List UInt8),1<=nm.length->nm.length<=32->∀(a:Option Addr) (cp:Nat) (b:List UInt8),Lies w a (b.map bv)->b.length<=1048576->
  Calls Tryz.prog 37 #[.pointer (some ⟨s,0,none⟩),nv nm,.slice a b.length cp] w λe w'=>e=.returned (.int .i64 0)/\∃Q',At w' Q' false (setF F nm (some b)) (n+1)/\(∀k,Q' k->Q k\/w.heap.size<=k)/\Upon Q w w'
 write_off:∀{w:World} {Q:Nat->Prop} {F:Files} {n:Nat},At w Q true F n->∀(x:Value) (a:Option Addr) (m cp:Nat),
  Calls Tryz.prog 37 #[.pointer (some ⟨s,0,none⟩),x,.slice a m cp] w λe w'=>e=.returned (.int .i64 6)/\Below w.heap.size w w'
 read_some:∀{w:World} {Q:Nat->Prop} {F:Files} {n:Nat},At w Q false F n->∀(nm b:List UInt8),F nm=some b->
  Calls Tryz.prog 39 #[.pointer (some ⟨s,0,none⟩),nv nm] w λe w'=>∃v,e=.returned (.tuple #[v,.int .i64 0])/\OwnB w' w.heap.size v b/\Below w.heap.size w w'
 read_none:∀{w:World} {Q:Nat->Prop} {F:Files} {n:Nat},At w Q false F n->∀(nm:List UInt8),nm.length<=1000000->F nm=none->
  Calls Tryz.prog 39 #[.pointer (some ⟨s,0,none⟩),nv nm] w λe w'=>∃v,e=.returned (.tuple #[v,.int .i64 8])/\OwnB w' w.heap.size v []/\Below w.heap.size w w'
 read_off:∀{w:World} {Q:Nat->Prop} {F:Files} {n:Nat},At w Q true F n->∀(x:Value),
  Calls Tryz.prog 39 #[.pointer (some ⟨s,0,none⟩),x] w λe w'=>e=.returned (.tuple #[.slice none 0 0,.int .i64 6])/\Below w.heap.size w w'
 remove:∀{w:World} {Q:Nat->Prop} {F:Files} {n:Nat},At w Q false F n->n<100000->∀(nm:List UInt8),F nm≠none->
  Calls Tryz.prog 70 #[.pointer (some ⟨s,0,none⟩),nv nm] w λe w'=>e=.returned (.int .i64 0)/\∃Q',At w' Q' false (setF F nm none) (n+1)/\(∀k,Q' k->Q k\/w.heap.size<=k)/\Upon Q w w'
 remove_off:∀{w:World} {Q:Nat->Prop} {F:Files} {n:Nat},At w Q true F n->∀(x:Value),
  Calls Tryz.prog 70 #[.pointer (some ⟨s,0,none⟩),x] w λe w'=>e=.returned (.int .i64 6)/\Below w.heap.size w w'
 names:∀{w:World} {Q:Nat->Prop} {off:Bool} {F:Files} {n:Nat},At w Q off F n->
  Calls Tryz.prog 20 #[.pointer (some ⟨s,0,none⟩)] w λe w'=>∃(v:Value) (ss:List (List UInt8)),e=.returned v/\w'.ownsRow w.heap.size 9 1 v ss.length (ss.map encStr)/\(∀nm,nm∈ss↔F nm≠none)/\ss.length<=200000/\Below w.heap.size w w'
theorem Sto.later {s:Nat} (S:Sto s) {w w':World} {Q:Nat->Prop} {off:Bool} {F:Files} {n:Nat} (h:S.At w Q off F n) (hB:Below w.heap.size w w'):S.At w' Q off F n:=S.keep h hB.size (λk hk=>hB.block k (S.lt h k hk))
theorem Sto.upon {s:Nat} (S:Sto s) {w w':World} {P Q:Nat->Prop} {off:Bool} {F:Files} {n:Nat} (h:S.At w Q off F n) (hB:Upon P w w') (hP:∀k,P k->¬Q k):S.At w' Q off F n:=S.keep h hB.size (λk hk=>hB.block k (S.lt h k hk) (λhp=>hP k hp hk))
def filesOf (C:Chg):Files:=λnm=>match C nm with
 |some c=>c
 |none=>none
theorem filesOf_file (C:Chg) (nm:List UInt8):isFile C nm=true↔filesOf C nm≠none:=by
 unfold isFile filesOf
 cases C nm with
 |none=>simp
 |some c=>cases c <;> simp
theorem filesOf_set (C:Chg) (nm:List UInt8) (c:Option (List UInt8)):filesOf (setC C nm (some c))=setF (filesOf C) nm c:=by
 funext x
 by_cases e:x=nm
 ·subst e;rw[setF_same];unfold filesOf;rw[setC_same]
 ·rw[setF_other _ e];unfold filesOf;rw[setC_other _ e]
structure Bare (s d g N cm:Nat) (w:World) (Q:Nat->Prop) (off:Bool) (F:Files) (n:Nat):Prop where
 at_:∃(C:Chg) (L:List (List UInt8)),St w Q s d g N cm off C/\F=filesOf C/\(∀x,C x≠none->x∈L)/\L.length<=n/\∀x∈L,x.length<=32
 few:n<=100000
 long:∀nm b,F nm=some b->b.length<=1048576
theorem readOf_file {C:Chg} {nm b:List UInt8} (h:filesOf C nm=some b):readOf C nm=(b,0):=by
 unfold filesOf at h;unfold readOf
 cases hc:C nm with
 |none=>rw[hc]at h;cases h
 |some c=>
  rw[hc]at h;dsimp only at h;rw[h]
theorem readOf_none {C:Chg} {nm:List UInt8} (h:filesOf C nm=none):readOf C nm=([],8):=by
 unfold filesOf at h;unfold readOf
 cases hc:C nm with
 |none=>rfl
 |some c=>
  rw[hc]at h;dsimp only at h;rw[h]
def bare (s d g N cm:Nat):Sto s where
 At:=Bare s d g N cm
 lt h k hk:=by
  obtain⟨C,L,hs,_⟩:=h.at_;exact hs.lt k hk
 keep h hsz hk:=by
  obtain⟨C,L,hs,r⟩:=h.at_;exact⟨⟨C,L,hs.keep hsz hk,r⟩,h.few,h.long⟩
 short h nm b hb:=by
  obtain⟨C,L,hs,hF,hL,hn,hl⟩:=h.at_;refine⟨hl nm (hL nm (λe=>?_)),h.long nm b hb⟩;rw[hF]at hb;unfold filesOf at hb;rw[e]at hb;cases hb
 write h hn nm h1 h2 a cp b hL hb:=by
  obtain⟨C,L,hs,hF,hLs,hLn,hLl⟩:=h.at_;refine(write_any hs L hLs (by omega) nm h1 h2 a cp b hL hb).mono ?_;rintro e w' ⟨rfl,Q',hst,hq1,hq2,ho⟩;refine⟨rfl,Q',⟨⟨_,nm ::L,hst,?_,?_,?_,?_⟩,by omega,?_⟩,hq1,Upon.of_only ho (λg hg=>.inl (by rw[jE.1 hg];exact hs.qm))⟩
  ·rw[filesOf_set,hF]
  ·intro x hx
   by_cases e:x=nm
   ·rw[e];simp
   ·rw[setC_other _ e]at hx;exact List.mem_cons_of_mem _ (hLs x hx)
  ·simp;omega
  ·intro x hx;rcases List.mem_cons.1 hx with rfl|hx
   ·exact h2
   ·exact hLl x hx
  ·intro x b' hx
   by_cases e:x=nm
   ·subst e;rw[setF_same]at hx;cases hx;exact hb
   ·rw[setF_other _ e]at hx;exact h.long x b' hx
 write_off h x a m cp:=by
  obtain⟨C,L,hs,_⟩:=h.at_;refine(Store.write_off hs x a m cp).mono ?_;rintro e w' ⟨rfl,rfl⟩;exact⟨rfl,Below.refl _ _⟩
 read_some h nm b hb:=by
  obtain⟨C,L,hs,hF,hL,hn,hl⟩:=h.at_;have hlen:=h.long
  have hnm:nm.length<=32:=hl nm (hL nm (λe=>by
   rw[hF]at hb;unfold filesOf at hb;rw[e]at hb;cases hb))
  rw[hF]at hb hlen;refine(read_any hs nm (by omega) (λb' hb'=>?_)).mono ?_
  ·have:=hlen nm b' (by unfold filesOf;rw[hb'])
   omega
  ·rw[readOf_file hb];rintro e w' ⟨v,rfl,h1,h2⟩;exact⟨v,rfl,h1,h2⟩
 read_none h nm hn hb:=by
  obtain⟨C,L,hs,hF,hL,hn',hl⟩:=h.at_;have hlen:=h.long;rw[hF]at hb hlen;refine(read_any hs nm hn (λb' hb'=>?_)).mono ?_
  ·have:=hlen nm b' (by unfold filesOf;rw[hb'])
   omega
  ·rw[readOf_none hb];rintro e w' ⟨v,rfl,h1,h2⟩;exact⟨v,rfl,h1,h2⟩
 read_off h x:=by
  obtain⟨C,L,hs,_⟩:=h.at_;exact Store.read_off hs x
 remove h hn nm hf:=by
  obtain⟨C,L,hs,hF,hLs,hLn,hLl⟩:=h.at_;rw[hF]at hf;refine(remove_any hs L hLs (by omega) (λx hx=>by have:=hLl x hx;omega) nm ((filesOf_file C nm).2 hf)).mono ?_;rintro e w' ⟨rfl,Q',hst,hq1,hq2,ho⟩;refine⟨rfl,Q',⟨⟨_,nm ::L,hst,?_,?_,?_,?_⟩,by omega,?_⟩,hq1,Upon.of_only ho (λg hg=>.inl (by rw[jE.1 hg];exact hs.qm))⟩
  ·rw[filesOf_set,hF]
  ·intro x hx
   by_cases e:x=nm
   ·rw[e];simp
   ·rw[setC_other _ e]at hx;exact List.mem_cons_of_mem _ (hLs x hx)
  ·simp;omega
  ·intro x hx;rcases List.mem_cons.1 hx with rfl|hx
   ·refine hLl x (hLs x (λe=>hf ?_));unfold filesOf;rw[e]
   ·exact hLl x hx
  ·intro x b' hx
   by_cases e:x=nm
   ·subst e;rw[setF_same]at hx;cases hx
   ·rw[setF_other _ e]at hx;exact h.long x b' hx
 remove_off h x:=by
  obtain⟨C,L,hs,_⟩:=h.at_;refine(Store.remove_off hs x).mono ?_;rintro e w' ⟨rfl,rfl⟩;exact⟨rfl,Below.refl _ _⟩
 names h:=by
  obtain⟨C,L,hs,hF,hLs,hLn,hLl⟩:=h.at_;have hfew:=h.few;refine(names_any hs L hLs (by omega) (λx hx=>by have:=hLl x hx;omega)).mono ?_;rintro e w' ⟨v,ss,rfl,h1,h2,h3,h4⟩;refine⟨v,ss,rfl,h1,λnm=>?_,by omega,h4⟩;rw[h2,hF];exact filesOf_file C nm
end Store
namespace Runs
open Go.RowKit Go.Deep Mem Crc Merge
open Store (nv)
open Go.Proofs.YtfgjnpbffppocaaGreatDoor.Text (dec decA dig)
structure Fi where
 s:Nat
 pf:List UInt8
 wd:Nat
 rm:Nat
def Fi.ok (A:Fi):Prop:=1<=A.pf.length/\A.pf.length<=16/\1<=A.wd/\A.wd<=64/\1<=A.rm/\A.rm<=4096
def val:List UInt8->Nat
 | []=>0
 |c ::t=>(c.toNat-48)*10^t.length+val t
theorem val_decA:∀(f n:Nat) (acc:List UInt8),n<10^f->val (decA f n acc)=n*10^acc.length+val acc
 |0,n,acc,h=>by
  have:n=0:=by simpa using h
  subst this
  simp[decA]
 |f+1,n,acc,h=>by
  have hd:val (dig n ::acc)=(n%10)*10^acc.length+val acc:=by
   have:=Go.Proofs.YtfgjnpbffppocaaGreatDoor.Text.dig_nat n;show((dig n).toNat-48)*10^acc.length+val acc=_;rw[this]
   congr 2
   omega
  unfold decA
  split
  ·rw[hd,show n%10=n by omega]
  ·rw[val_decA f (n/10) _ (by rw[Nat.div_lt_iff_lt_mul (by decide),<-Nat.pow_succ];exact h),hd,List.length_cons,Nat.pow_succ,<-Nat.add_assoc]
   congr 1
   have:n*10^acc.length=(n/10*10+n%10)*10^acc.length:=by rw[Nat.div_add_mod' n 10]
   rw[this,Nat.add_mul,Nat.mul_assoc,Nat.mul_comm 10 (10^acc.length)]
theorem val_dec (n:Nat) (h:n<10^20):val (dec n)=n:=by
 unfold dec;rw[val_decA 20 n [] h]
 simp[val]
theorem dec_inj {i j:Nat} (hi:i<10^20) (hj:j<10^20) (h:dec i=dec j):i=j:=by rw[<-val_dec i hi,<-val_dec j hj,h]
theorem lies_at {w:World} {a:Option Addr} {xs:List Value} (h:Lies w a xs) {k:Nat} {u:Value} (hk:xs[k]? =some u):∃g off,a=some ⟨g,off,none⟩/\w.cell? ⟨g,off+k,none⟩=some u:=by
 rcases h with e|⟨g,off,e,_,hc⟩
 ·rw[e]at hk;cases hk
 ·exact⟨g,off,e,hc k u hk⟩
end Runs
end Go.Proofs.YtfgjnpbffppocaaGreatDoor
