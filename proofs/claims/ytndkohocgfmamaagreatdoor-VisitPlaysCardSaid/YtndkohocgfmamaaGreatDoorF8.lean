/- Part. -/
import Derived.Test.YtndkohocgfmamaaGreatDoorF7
import Derived.Test.YtndkohocgfmamaaGreatDoorShelf
set_option maxHeartbeats 400000
set_option maxRecDepth 100000
namespace Go.Proofs.YtndkohocgfmamaaGreatDoor
open Go.Proofs.Tryz
namespace Store
open Go.RowKit Go.Deep Mem Crc jZ dW Go.Maps
theorem Gz(v:Value)(B:Nat)(b:List (List UInt8))(nm:List UInt8)(w:World)(h:w.ownsRow B 9 1 v b.length (b.map encStr))(f:nm∈b)(o:b.length<=1000000):
  Calls prog 49 #[v,nv nm] w λe w'=>e=.returned (.bool true)/\w'=w:=by
 obtain⟨a,cap,rfl,hc,k,_,_⟩:=own_shape h
 obtain⟨g,off,rfl,_,hcs⟩:=k.resolve_left (λe=>by
  rw[dM]at e;subst e;cases f)
 have:=Tryz.slices_Contains_string g off b.length cap (b.map λl=>(⟨l.toArray⟩:ByteArray)) ⟨nm.toArray⟩ w (by simp) (by omega) (λj c=>by
  rw[jP]at c;have:=hcs j (encStr b[j]) (by simp[c]);rw[this]
  simp[c])
 have m:Lib.containsS ((b.map λl=>(⟨l.toArray⟩:ByteArray)).take b.length) ⟨nm.toArray⟩=true:=by
  rw[Lib.containsS_iff,jW (by simp)];exact List.mem_map.2 ⟨nm,f,rfl⟩
 rw[m]at this;exact this
variable {w w':World}{Q:Nat->Prop}{s d g N cm n:Nat}{C:au}{nm:List UInt8}
theorem VX(h:St w Q s d g N cm false C)(L:List (List UInt8))(c:∀x,C x≠none->x∈L)(y:L.length<=1000000)(r:∀x∈L,x.length<=1000000)(nm:List UInt8)(a:fD C nm=true):
  Calls prog 101 #[.pointer (some ⟨s,0,none⟩),nv nm] w λe w'=>e=.returned (.int .i64 0)/\∃Q',St w' Q' s d g N cm false (dV C nm (some none))/\(∀k,Q' k->Q k\/w.heap.size<=k)/\(∀k,Q k->Q' k)/\Only [cm] w w':=by
 have B:=jq (lK h);have E:=jq (JK h L c y r);have H:=jq h;have D:=jq h.store.lt;have M:nm.length<=1000000:=r nm (c nm (λe=>by unfold fD at a;rw[e]at a;cases a));clear h;obtain⟨x,m⟩:=jl (nv nm);rw[<-m];have o:=jq m;clear m
 go_enter func101,ntmps101
 go_wp2_with fail
 refine B.out.mono ?_;rintro e w1 ⟨rfl,rfl⟩
 go_wp2_with fail
 refine E.out.mono ?_;rintro e w2 ⟨v,R,rfl,t,u,S,b⟩;have q:=jq (Gz v _ R nm w2 t ((u nm).2 a) (by omega));rw[<-o.out]at q;obtain⟨T,O,A,z,P⟩:=H.out.changed (w1:=w2) b L c y nm M none (.agg #[.slice none 0 0,.bool true]) rfl;rw[<-o.out]at O;have J:=(b.cell (p:=⟨s,4,none⟩) D.out).trans (H.out.store.cell 4)
 simp at J
 have I:=jq A;have G:=jq z;clear t u b A z P
 go_wp2_with fail
 refine q.out.mono ?_;rintro e U ⟨rfl,rfl⟩
 go_wp2_with fail
 go_ret
 exact⟨rfl,_,I.out,λk f=>f.imp id And.left,λk f=>.inl f,G.out⟩
theorem xW(h:St w Q s d g N cm true C)(x:Value):
  Calls prog 101 #[.pointer (some ⟨s,0,none⟩),x] w λe w'=>e=.returned (.int .i64 6)/\w'=w:=by
 have a:=jq (lK h);clear h
 go_enter func101,ntmps101
 go_wp2_with fail
 refine a.out.mono ?_;rintro e w1 ⟨rfl,rfl⟩
 go_wp2_with fail
 go_ret
 exact⟨rfl,rfl⟩
abbrev Files:=List UInt8->Option (List UInt8)
noncomputable def setF(F:Files)(nm:List UInt8)(b:Option (List UInt8)):Files:=λx=>open Classical in if x=nm then b else F x
theorem fF(F:Files)(nm:List UInt8)(b:Option (List UInt8)):setF F nm b nm=b:=by unfold setF;rw[if_pos rfl]
variable {F:Files}
theorem fG{x:List UInt8}(b:Option (List UInt8))(h:x≠nm):setF F nm b x=F x:=by unfold setF;rw[if_neg h]
structure Sto(s:Nat) where
 At:World->(Nat->Prop)->Bool->Files->Nat->Prop
 lt:∀{w:World} {Q:Nat->Prop} {off:Bool} {F:Files} {n:Nat},At w Q off F n->∀k,Q k->k<w.heap.size
 keep:∀{w w':World} {Q:Nat->Prop} {off:Bool} {F:Files} {n:Nat},At w Q off F n->w.heap.size<=w'.heap.size->(∀k,Q k->w'.heap[k]? =w.heap[k]?)->At w' Q off F n
 short:∀{w:World} {Q:Nat->Prop} {off:Bool} {F:Files} {n:Nat},At w Q off F n->∀nm b,F nm=some b->nm.length<=32/\b.length<=1048576
 write:∀{w:World} {Q:Nat->Prop} {F:Files} {n:Nat},At w Q false F n->n<100000->∀(nm:List UInt8),1<=nm.length->nm.length<=32->∀(a:Option Addr) (cp:Nat) (b:List UInt8),Lies w a (b.map bv)->b.length<=1048576->
  Calls prog 30 #[.pointer (some ⟨s,0,none⟩),nv nm,.slice a b.length cp] w λe w'=>e=.returned (.int .i64 0)/\∃Q',At w' Q' false (setF F nm (some b)) (n+1)/\(∀k,Q' k->Q k\/w.heap.size<=k)/\Upon Q w w'
 xU:∀{w:World} {Q:Nat->Prop} {F:Files} {n:Nat},At w Q true F n->∀(x:Value) (a:Option Addr) (m cp:Nat),
  Calls prog 30 #[.pointer (some ⟨s,0,none⟩),x,.slice a m cp] w λe w'=>e=.returned (.int .i64 6)/\Below w.heap.size w w'
 AQ:∀{w:World} {Q:Nat->Prop} {F:Files} {n:Nat},At w Q false F n->∀(nm b:List UInt8),F nm=some b->
  Calls prog 108 #[.pointer (some ⟨s,0,none⟩),nv nm] w λe w'=>∃v,e=.returned (.tuple #[v,.int .i64 0])/\ak w' w.heap.size v b/\Below w.heap.size w w'
 I5:∀{w:World} {Q:Nat->Prop} {F:Files} {n:Nat},At w Q false F n->∀(nm:List UInt8),nm.length<=1000000->F nm=none->
  Calls prog 108 #[.pointer (some ⟨s,0,none⟩),nv nm] w λe w'=>∃v,e=.returned (.tuple #[v,.int .i64 8])/\ak w' w.heap.size v []/\Below w.heap.size w w'
 xV:∀{w:World} {Q:Nat->Prop} {F:Files} {n:Nat},At w Q true F n->∀(x:Value),
  Calls prog 108 #[.pointer (some ⟨s,0,none⟩),x] w λe w'=>e=.returned (.tuple #[.slice none 0 0,.int .i64 6])/\Below w.heap.size w w'
 remove:∀{w:World} {Q:Nat->Prop} {F:Files} {n:Nat},At w Q false F n->n<100000->∀(nm:List UInt8),F nm≠none->
  Calls prog 101 #[.pointer (some ⟨s,0,none⟩),nv nm] w λe w'=>e=.returned (.int .i64 0)/\∃Q',At w' Q' false (setF F nm none) (n+1)/\(∀k,Q' k->Q k\/w.heap.size<=k)/\Upon Q w w'
 xW:∀{w:World} {Q:Nat->Prop} {F:Files} {n:Nat},At w Q true F n->∀(x:Value),
  Calls prog 101 #[.pointer (some ⟨s,0,none⟩),x] w λe w'=>e=.returned (.int .i64 6)/\Below w.heap.size w w'
 names:∀{w:World} {Q:Nat->Prop} {off:Bool} {F:Files} {n:Nat},At w Q off F n->
  Calls prog 48 #[.pointer (some ⟨s,0,none⟩)] w λe w'=>∃(v:Value) (ss:List (List UInt8)),e=.returned v/\w'.ownsRow w.heap.size 9 1 v ss.length (ss.map encStr)/\(∀nm,nm∈ss↔F nm≠none)/\ss.length<=200000/\Below w.heap.size w w'
theorem Sto.later(S:Sto s){off:Bool}(h:S.At w Q off F n)(a:Below w.heap.size w w'):S.At w' Q off F n:=S.keep h a.size (λk b=>a.block k (S.lt h k b))
theorem Sto.upon(S:Sto s){P:Nat->Prop}{off:Bool}(h:S.At w Q off F n)(a:Upon P w w')(c:∀k,P k->¬Q k):S.At w' Q off F n:=S.keep h a.size (λk b=>a.block k (S.lt h k b) (λe=>c k e b))
def gZ(C:au):Files:=λnm=>match C nm with
 |some c=>c
 |none=>none
theorem JL(C:au)(nm:List UInt8):fD C nm=true↔gZ C nm≠none:=by
 unfold fD gZ
 cases C nm with
 |none=>simp
 |some c=>cases c <;> simp
theorem JM(C:au)(nm:List UInt8)(c:Option (List UInt8)):gZ (dV C nm (some c))=setF (gZ C) nm c:=by
 funext x
 by_cases e:x=nm
 ·subst e;rw[fF];unfold gZ;rw[lT]
 ·rw[fG _ e];unfold gZ;rw[jJ _ e]
structure GR(s d g N cm:Nat)(w:World)(Q:Nat->Prop)(off:Bool)(F:Files)(n:Nat):Prop where
 at_:∃(C:au) (L:List (List UInt8)),St w Q s d g N cm off C/\F=gZ C/\(∀x,C x≠none->x∈L)/\L.length<=n/\∀x∈L,x.length<=32
 few:n<=100000
 long:∀nm b,F nm=some b->b.length<=1048576
theorem VY{b:List UInt8}(h:gZ C nm=some b):kE C nm=(b,0):=by
 unfold gZ at h;unfold kE
 cases hc:C nm with
 |none=>rw[hc]at h;cases h
 |some c=>
  rw[hc]at h;dsimp only at h;rw[h]
theorem VZ(h:gZ C nm=none):kE C nm=([],8):=by
 unfold gZ at h;unfold kE
 cases hc:C nm with
 |none=>rfl
 |some c=>
  rw[hc]at h;dsimp only at h;rw[h]
def bare(s d g N cm:Nat):Sto s where
 At:=GR s d g N cm
 lt h k hk:=by
  obtain⟨C,L,hs,_⟩:=h.at_;exact hs.lt k hk
 keep h hsz hk:=by
  obtain⟨C,L,hs,r⟩:=h.at_;exact⟨⟨C,L,hs.keep hsz hk,r⟩,h.few,h.long⟩
 short h nm b hb:=by
  obtain⟨C,L,hs,hF,hL,hn,hl⟩:=h.at_;refine⟨hl nm (hL nm (λe=>?_)),h.long nm b hb⟩;rw[hF]at hb;unfold gZ at hb;rw[e]at hb;cases hb
 write h hn nm h1 h2 a cp b hL hb:=by
  obtain⟨C,L,hs,hF,oI,hLn,qB⟩:=h.at_;refine(vQ hs L oI (by omega) nm h1 h2 a cp b hL hb).mono ?_;rintro e w' ⟨rfl,Q',hst,hq1,hq2,ho⟩;refine⟨rfl,Q',⟨⟨_,nm ::L,hst,?_,?_,?_,?_⟩,by omega,?_⟩,hq1,Upon.fB ho (λg hg=>.inl (by rw[jE.1 hg];exact hs.qm))⟩
  ·rw[JM,hF]
  ·intro x hx
   by_cases e:x=nm
   ·rw[e];simp
   ·rw[jJ _ e]at hx;exact eD _ (oI x hx)
  ·simp;omega
  ·intro x hx;rcases List.mem_cons.1 hx with rfl|hx
   ·exact h2
   ·exact qB x hx
  ·intro x b' hx
   by_cases e:x=nm
   ·subst e;rw[fF]at hx;cases hx;exact hb
   ·rw[fG _ e]at hx;exact h.long x b' hx
 xU h x a m cp:=by
  obtain⟨C,L,hs,_⟩:=h.at_;refine(Store.xU hs x a m cp).mono ?_;rintro e w' ⟨rfl,rfl⟩;exact⟨rfl,Below.refl _ _⟩
 AQ h nm b hb:=by
  obtain⟨C,L,hs,hF,hL,hn,hl⟩:=h.at_;have hlen:=h.long
  have hnm:nm.length<=32:=hl nm (hL nm (λe=>by
   rw[hF]at hb;unfold gZ at hb;rw[e]at hb;cases hb))
  rw[hF]at hb hlen;refine(qY hs nm (by omega) (λb' hb'=>?_)).mono ?_
  ·have:=hlen nm b' (by unfold gZ;rw[hb'])
   omega
  ·rw[VY hb];rintro e w' ⟨v,rfl,h1,h2⟩;exact⟨v,rfl,h1,h2⟩
 I5 h nm hn hb:=by
  obtain⟨C,L,hs,hF,hL,hn',hl⟩:=h.at_;have hlen:=h.long;rw[hF]at hb hlen;refine(qY hs nm hn (λb' hb'=>?_)).mono ?_
  ·have:=hlen nm b' (by unfold gZ;rw[hb'])
   omega
  ·rw[VZ hb];rintro e w' ⟨v,rfl,h1,h2⟩;exact⟨v,rfl,h1,h2⟩
 xV h x:=by
  obtain⟨C,L,hs,_⟩:=h.at_;exact Store.xV hs x
 remove h hn nm hf:=by
  obtain⟨C,L,hs,hF,oI,hLn,qB⟩:=h.at_;rw[hF]at hf;refine(VX hs L oI (by omega) (λx hx=>by have:=qB x hx;omega) nm ((JL C nm).2 hf)).mono ?_;rintro e w' ⟨rfl,Q',hst,hq1,hq2,ho⟩;refine⟨rfl,Q',⟨⟨_,nm ::L,hst,?_,?_,?_,?_⟩,by omega,?_⟩,hq1,Upon.fB ho (λg hg=>.inl (by rw[jE.1 hg];exact hs.qm))⟩
  ·rw[JM,hF]
  ·intro x hx
   by_cases e:x=nm
   ·rw[e];simp
   ·rw[jJ _ e]at hx;exact eD _ (oI x hx)
  ·simp;omega
  ·intro x hx;rcases List.mem_cons.1 hx with rfl|hx
   ·refine qB x (oI x (λe=>hf ?_));unfold gZ;rw[e]
   ·exact qB x hx
  ·intro x b' hx
   by_cases e:x=nm
   ·subst e;rw[fF]at hx;cases hx
   ·rw[fG _ e]at hx;exact h.long x b' hx
 xW h x:=by
  obtain⟨C,L,hs,_⟩:=h.at_;refine(Store.xW hs x).mono ?_;rintro e w' ⟨rfl,rfl⟩;exact⟨rfl,Below.refl _ _⟩
 names h:=by
  obtain⟨C,L,hs,hF,oI,hLn,qB⟩:=h.at_;have Ua:=h.few;refine(JK hs L oI (by omega) (λx hx=>by have:=qB x hx;omega)).mono ?_;rintro e w' ⟨v,ss,rfl,h1,h2,h3,h4⟩;refine⟨v,ss,rfl,h1,λnm=>?_,by omega,h4⟩;rw[h2,hF];exact JL C nm
end Store
namespace Runs
open Go.RowKit Go.Deep Mem Crc Merge
open Store (nv)
open Go.Proofs.YtndkohocgfmamaaGreatDoor.Text (dec dK dA)
def rname(pf:List UInt8)(k:Nat):List UInt8:=pf++dec k
structure Fi where
 s:Nat
 pf:List UInt8
 wd:Nat
 rm:Nat
def Fi.ok(A:Fi):Prop:=1<=A.pf.length/\A.pf.length<=16/\1<=A.wd/\A.wd<=64/\1<=A.rm/\A.rm<=4096
theorem Gw(pf a:List UInt8): ((⟨pf.toArray⟩:ByteArray)++(⟨a.toArray⟩:ByteArray))=⟨(pf++a).toArray⟩:=by
 apply oQ
 simp
theorem RV(k:Nat):dec k≠[]:=by
 have h:∀(f n:Nat) (acc:List UInt8),(f≠0\/acc≠[])->Go.Proofs.YtndkohocgfmamaaGreatDoor.Text.dK f n acc≠[]:=by
  intro f
  induction f with
  |zero=>
   intro n acc h;rcases h with h|h
   ·exact absurd rfl h
   ·exact h
  |succ f a=>
   intro n acc _;unfold Go.Proofs.YtndkohocgfmamaaGreatDoor.Text.dK
   split
   ·simp
   ·exact a _ _ (.inr (by simp))
 exact h 20 k [] (.inl (by decide))
theorem Gv(k:Nat): (dec k).length<=20:=by
 have:=Go.Proofs.YtndkohocgfmamaaGreatDoor.Text.AY 20 k [];rw[List.length_nil,Nat.zero_add]at this;exact this
def sortB(l:List B):List B:=l.mergeSort (λx y=>decide (x<=y))
theorem dJ(l:List B): (sortB l).Perm l:=vv _ _
theorem jO(l:List B):aS (sortB l):=by
 have:=List.pairwise_mergeSort (le:=λx y:B=>decide (x<=y)) (λa b c h k=>by simp at h k⊢;exact mE h k) (λa b=>by simp;exact List.le_total a b) l;exact this.imp (λh=>by simpa using h)
variable {l:List B}{i j:Nat}
theorem tY{l':List B}(a:l'.Perm l)(b:aS l'):l'=sortB l:=Au b (jO l) (a.trans (dJ l).symm)
def aR(l:List B):List UInt8:=Go.Proofs.YtndkohocgfmamaaGreatDoor.Frame.bq 82 (sortB l).flatten
theorem AF{wd:Nat}(h:∀b∈l,b.length=wd):l.flatten.length=l.length*wd:=by
 induction l with
 |nil=>simp
 |cons a t c=>
  rw[List.flatten_cons,jL,c (λb hb=>h b (eD _ hb)),h a (by simp),List.length_cons,eY]
  omega
theorem xB{wd:Nat}(h:∀b∈l,b.length=wd):∀b∈sortB l,b.length=wd:=λb hb=>h b ((dJ l).mem_iff.1 hb)
theorem nZ{wd:Nat}(h:∀b∈l,b.length=wd): (sortB l).flatten.length=l.length*wd:=by rw[AF (xB h),(dJ l).length_eq]
theorem xZ{wd:Nat}(h:∀b∈l,b.length=wd): (aR l).length=l.length*wd+13:=by unfold aR;rw[Go.Proofs.YtndkohocgfmamaaGreatDoor.Frame.jY,nZ h]
theorem JN:∀(d f n:Nat) (acc:List UInt8),n<10^(d+1)->d<f->(Go.Proofs.YtndkohocgfmamaaGreatDoor.Text.dK f n acc).length<=acc.length+d+1
 |_,0,_,_,_,h=>absurd h (je _)
 |0,f+1,n,acc,hn,_=>by
  unfold Go.Proofs.YtndkohocgfmamaaGreatDoor.Text.dK;rw[if_pos (by omega)]
  simp
 |d+1,f+1,n,acc,hn,hf=>by
  unfold Go.Proofs.YtndkohocgfmamaaGreatDoor.Text.dK
  split
  ·simp
  ·have:=JN d f (n/10) (Go.Proofs.YtndkohocgfmamaaGreatDoor.Text.dA n ::acc) (by rw[qL (by decide),<-iJ];exact hn) (by omega)
   simp at this
   omega
theorem Gx{A:Fi}(h:A.ok)(k:Nat)(e:k<=1000000):1<=(rname A.pf k).length/\(rname A.pf k).length<=32:=by
 have a: (dec k).length<=7:=by
  have:=JN 6 20 k [] (by omega) (by decide);unfold dec
  simpa using this
 obtain⟨b,c,_⟩:=h;unfold rname;rw[jL]
 omega
def val:List UInt8->Nat
 | []=>0
 |c ::t=>(c.toNat-48)*10^t.length+val t
theorem JO:∀(f n:Nat) (acc:List UInt8),n<10^f->val (dK f n acc)=n*10^acc.length+val acc
 |0,n,acc,h=>by
  have:n=0:=by simpa using h
  subst this
  simp[dK]
 |f+1,n,acc,h=>by
  have hd:val (dA n ::acc)=(n%10)*10^acc.length+val acc:=by
   have:=Go.Proofs.YtndkohocgfmamaaGreatDoor.Text.AZ n;show((dA n).toNat-48)*10^acc.length+val acc=_;rw[this]
   congr 2
   omega
  unfold dK
  split
  ·rw[hd,show n%10=n by omega]
  ·rw[JO f (n/10) _ (by rw[qL (by decide),<-iJ];exact h),hd,List.length_cons,iJ,<-Nat.add_assoc]
   congr 1
   have:n*10^acc.length=(n/10*10+n%10)*10^acc.length:=by rw[Nat.div_add_mod' n 10]
   rw[this,Nat.add_mul,mG,iy 10 (10^acc.length)]
theorem JQ(n:Nat)(h:n<10^20):val (dec n)=n:=by
 unfold dec;rw[JO 20 n [] h]
 simp[val]
theorem V5(a:i<10^20)(b:j<10^20)(h:dec i=dec j):i=j:=by rw[<-JQ i a,<-JQ j b,h]
theorem xC{pf:List UInt8}(a:i<10^20)(b:j<10^20)(h:rname pf i=rname pf j):i=j:=V5 a b (by unfold rname at h;exact List.append_cancel_left h)
theorem AA{α:Type}[DecidableEq α](g:Nat->α):∀(k:Nat) (l:List α),(∀i j,i<k->j<k->g i=g j->i=j)->(∀j,j<k->g j∈l)->k<=l.length
 |0,_,_,_=>aC _
 |k+1,l,hi,hm=>by
  have a:=hm k (by omega)
  have:=AA g k (l.erase (g k)) (λi j c f=>hi i j (by omega) (by omega)) (λj h=>by
   have b:g j≠g k:=λe=>by have:=hi j k (by omega) (by omega) e;omega
   exact(List.mem_erase_of_ne b).2 (hm j (by omega)))
  rw[List.length_erase_of_mem a]at this;have m:0<l.length:=List.length_pos_of_mem a
  omega
def strB(b:B):Value:=.string ⟨b.toArray⟩
theorem EP: (prog.info? 9).map (λi=>(i.zero,i.size,i.bytes))=some (some (.string .empty),1,16):=by kernel_rfl
theorem iB{w:World}{a:Option Addr}{xs:List Value}(h:Lies w a xs){k:Nat}{u:Value}(b:xs[k]? =some u):∃g off,a=some ⟨g,off,none⟩/\w.cell? ⟨g,off+k,none⟩=some u:=by
 rcases h with e|⟨g,off,e,_,hc⟩
 ·rw[e]at b;cases b
 ·exact⟨g,off,e,hc k u b⟩
end Runs
end Go.Proofs.YtndkohocgfmamaaGreatDoor
